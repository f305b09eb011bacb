/- Plain: what an operation of the store does to a key, to another one, and to what is past. -/
import Derived.Test.YtmhdkjihhdljlaaStFit
set_option linter.unusedVariables false
set_option linter.unusedSimpArgs false
namespace Go.Proofs.Ytmhdkjihhdljlaa.X
open Go.RowKit Go.Proofs.YtmhdkjihhdljlaaW.PrintWords Go.Proofs.YtmhdkjihhdljlaaW.PrintMore
section
variable {j k : ByteArray} {E : List Ent} {x : Ent} {C : ByteArray → Int}
theorem find_congr {α : Type} {p q : α → Bool} : ∀ {l : List α}, (∀ a ∈ l, p a = q a) → l.find? p = l.find? q
  | [], _ => rfl
  | a :: l, h => by
    have h1 := h a List.mem_cons_self
    have h2 := find_congr (l := l) fun b hb => h b (List.mem_cons_of_mem _ hb)
    rw [List.find?_cons, List.find?_cons, h1, h2]
theorem f_key (h : fndE k E = some x) : x ∈ E ∧ x.key = k := ⟨List.mem_of_find?_eq_some h, by simpa using List.find?_some h⟩
theorem fl_key (h : fndE k (letE k E) = some x) : x ∈ E ∧ x.key = k ∧ x.past = false := by
  obtain ⟨h1, h2⟩ := f_key h
  obtain ⟨h3, h4⟩ := List.mem_filter.1 h1
  refine ⟨h3, h2, ?_⟩
  simpa [h2] using h4
theorem f_let (h : j ≠ k) : fndE j (letE k E) = fndE j E := by
  unfold fndE letE
  rw [List.find?_filter]
  refine find_congr fun a _ => ?_
  by_cases e : a.key = j
  · simp [e, h]
  · simp [e]
theorem f_drop (h : j ≠ k) : fndE j (dropE k E) = fndE j E := by
  unfold fndE dropE
  rw [List.find?_filter]
  refine find_congr fun a _ => ?_
  by_cases e : a.key = j
  · simp [e, h]
  · simp [e]
theorem f_upd (h : j ≠ k) (hx : x.key = k) : fndE j (updE k x E) = fndE j E := by
  unfold fndE updE
  induction E with
  | nil => rfl
  | cons a E ih =>
    rw [List.map_cons, List.find?_cons, List.find?_cons, ih]
    by_cases e : a.key = k
    · rw [if_pos e, hx, e]; simp [Ne.symm h]
    · rw [if_neg e]
theorem f_ins (h : j ≠ x.key) : fndE j (insE x E) = fndE j E := by
  unfold fndE insE
  rw [List.find?_append, List.find?_cons, List.find?_filter, List.find?_filter]
  have h0 : decide (x.key = j) = false := by simpa using Ne.symm h
  rw [h0]
  simp only
  by_cases hl : j.data.toList < x.key.data.toList
  · have e1 : List.find? (fun a => decide (decide (a.key.data.toList < x.key.data.toList) = true ∧ decide (a.key = j) = true)) E = List.find? (fun e => decide (e.key = j)) E := find_congr fun a _ => by
      by_cases e : a.key = j
      · subst e; simp [hl]
      · simp [e]
    have e2 : List.find? (fun a => decide ((!decide (a.key.data.toList < x.key.data.toList)) = true ∧ decide (a.key = j) = true)) E = none := List.find?_eq_none.2 fun a _ => by
      by_cases e : a.key = j
      · subst e; simp [hl]
      · simp [e]
    rw [e1, e2]; simp
  · have e1 : List.find? (fun a => decide (decide (a.key.data.toList < x.key.data.toList) = true ∧ decide (a.key = j) = true)) E = none := List.find?_eq_none.2 fun a _ => by
      by_cases e : a.key = j
      · subst e; simp [hl]
      · simp [e]
    have e2 : List.find? (fun a => decide ((!decide (a.key.data.toList < x.key.data.toList)) = true ∧ decide (a.key = j) = true)) E = List.find? (fun e => decide (e.key = j)) E := find_congr fun a _ => by
      by_cases e : a.key = j
      · subst e; simp [hl]
      · simp [e]
    rw [e1, e2]; simp
theorem f_purge_ne (h : ∀ e ∈ E, e.key = j → e.past = false) : fndE j (purgeE E) = fndE j E := by
  unfold fndE purgeE
  rw [List.find?_filter]
  refine find_congr fun a ha => ?_
  by_cases e : a.key = j
  · simp [e, h a ha e]
  · simp [e]
theorem fl_purge : fndE k (letE k E) = fndE k (purgeE E) := by
  unfold fndE letE purgeE
  rw [List.find?_filter, List.find?_filter]
  refine find_congr fun a _ => ?_
  by_cases e : a.key = k
  · simp [e]
  · simp [e]
theorem let_let : letE k (letE k E) = letE k E := by
  unfold letE
  rw [List.filter_filter]
  refine List.filter_congr fun a _ => ?_
  simp
/-- Ops at k leave another key j. -/
theorem f_put (h : j ≠ k) (v : Vl) : fndE j (putE k v E) = fndE j E := by
  unfold putE
  cases hf : fndE k (letE k E) with
  | none =>
    simp only
    split
    · exact f_let h
    · rw [f_ins (x := ⟨k, v, 0, false⟩) h]; exact f_let h
  | some p =>
    simp only
    split
    · rw [f_drop h]; exact f_let h
    · refine (f_upd h ?_).trans (f_let h); exact (fl_key hf).2.1
theorem f_set (h : j ≠ k) (now a : Int) (on : Bool) : fndE j (setE k now a on E) = fndE j E := by
  unfold setE
  cases hf : fndE k (letE k E) with
  | none => exact f_let h
  | some p =>
    simp only
    split
    · split
      · rw [f_drop h]; exact f_let h
      · refine (f_upd h ?_).trans (f_let h); exact (fl_key hf).2.1
    · refine (f_upd h ?_).trans (f_let h); exact (fl_key hf).2.1
theorem c_bump (h : j ≠ k) : bump k C j = C j := by unfold bump; rw [if_neg h]
theorem c_put (h : j ≠ k) (v : Vl) : putC k v E C j = C j := by
  unfold putC
  split
  · rfl
  · exact c_bump h
theorem c_set (h : j ≠ k) : setC k E C j = C j := by
  unfold setC
  split
  · rfl
  · exact c_bump h
/-! All entries are so. -/
variable {P : Ent → Prop}
theorem all_let (h : ∀ e ∈ E, P e) : ∀ e ∈ letE k E, P e := fun e he => h e (List.mem_filter.1 he).1
theorem all_drop (h : ∀ e ∈ E, P e) : ∀ e ∈ dropE k E, P e := fun e he => h e (List.mem_filter.1 he).1
theorem all_purge (h : ∀ e ∈ E, P e) : ∀ e ∈ purgeE E, P e := fun e he => h e (List.mem_filter.1 he).1
theorem all_upd (h : ∀ e ∈ E, P e) (hx : P x) : ∀ e ∈ updE k x E, P e := fun e he => by
  obtain ⟨a, ha, rfl⟩ := List.mem_map.1 he
  split
  · exact hx
  · exact h a ha
theorem all_ins (h : ∀ e ∈ E, P e) (hx : P x) : ∀ e ∈ insE x E, P e := fun e he => by
  unfold insE at he
  rcases List.mem_append.1 he with he | he
  · exact h e (List.mem_filter.1 he).1
  · rcases List.mem_cons.1 he with rfl | he
    · exact hx
    · exact h e (List.mem_filter.1 he).1
theorem all_put {Q : Vl → Prop} (h : ∀ e ∈ E, Q e.v) (v : Vl) (hv : v.kind ≠ 0 → Q v) : ∀ e ∈ putE k v E, Q e.v := by
  unfold putE
  cases hf : fndE k (letE k E) with
  | none =>
    simp only
    split
    · exact all_let (P := fun e => Q e.v) h
    · rename_i h0
      exact all_ins (P := fun e => Q e.v) (all_let (P := fun e => Q e.v) h) (hv h0)
  | some p =>
    simp only
    split
    · exact all_drop (P := fun e => Q e.v) (all_let (P := fun e => Q e.v) h)
    · rename_i h0
      exact all_upd (P := fun e => Q e.v) (all_let (P := fun e => Q e.v) h) (hv h0)
theorem all_set {Q : Vl → Prop} (h : ∀ e ∈ E, Q e.v) (now a : Int) (on : Bool) : ∀ e ∈ setE k now a on E, Q e.v := by
  unfold setE
  cases hf : fndE k (letE k E) with
  | none => exact all_let (P := fun e => Q e.v) h
  | some p =>
    have hp := h p (fl_key hf).1
    simp only
    split
    · split
      · exact all_drop (P := fun e => Q e.v) (all_let (P := fun e => Q e.v) h)
      · exact all_upd (P := fun e => Q e.v) (all_let (P := fun e => Q e.v) h) hp
    · exact all_upd (P := fun e => Q e.v) (all_let (P := fun e => Q e.v) h) hp
theorem tick1_v (t : Int) (e : Ent) : (tick1 t e).v = e.v ∧ (tick1 t e).key = e.key ∧ (tick1 t e).due = e.due := by
  unfold tick1
  split <;> exact ⟨rfl, rfl, rfl⟩
theorem all_tick {Q : Vl → Prop} (h : ∀ e ∈ E, Q e.v) (t : Int) : ∀ e ∈ tickE t E, Q e.v := fun e he => by
  obtain ⟨a, ha, rfl⟩ := List.mem_map.1 he
  rw [(tick1_v t a).1]
  exact h a ha
theorem f_tick (t : Int) : fndE j (tickE t E) = (fndE j E).map (tick1 t) := by
  unfold fndE tickE
  rw [List.find?_map]
  congr 1
  refine find_congr fun a _ => ?_
  simp [Function.comp, (tick1_v t a).2.1]
end
theorem ents_mem {A : List (Nat × Ent)} {e : Ent} (h : e ∈ ents A) : ∃ p ∈ A, p.2 = e := List.mem_map.1 h
theorem StoreSt.uniq {w0 w : World} {S : Nat → Prop} {g me mc n nc : Nat} {now : Int} {E : List Ent} {C : ByteArray → Int} (h : StoreSt w0 w S g me mc n nc now E C) : ∀ e ∈ E, fndE e.key E = some e := by
  obtain ⟨n', nc', A, h1, rfl, _⟩ := h
  intro e he
  obtain ⟨p, hp, rfl⟩ := ents_mem he
  rw [← ents_fnd, fnd_mem h1.srt hp rfl]
  rfl
theorem cells9 {w : World} {q : Nat} {a0 a1 a2 a3 a4 a5 a6 a7 a8 : Value} {t : TypeId} (h : w.heap[q]? = some (.cells #[a0, a1, a2, a3, a4, a5, a6, a7, a8] t (0, 0))) : w.cell? ⟨q, 0, none⟩ = some a0 ∧ w.cell? ⟨q, 1, none⟩ = some a1 ∧ w.cell? ⟨q, 2, none⟩ = some a2 ∧ w.cell? ⟨q, 3, none⟩ = some a3 ∧ w.cell? ⟨q, 4, none⟩ = some a4 ∧ w.cell? ⟨q, 5, none⟩ = some a5 ∧ w.cell? ⟨q, 6, none⟩ = some a6 ∧ w.cell? ⟨q, 7, none⟩ = some a7 ∧ w.cell? ⟨q, 8, none⟩ = some a8 := by
  refine ⟨?_, ?_, ?_, ?_, ?_, ?_, ?_, ?_, ?_⟩ <;> simp [World.cell?, h]
/-- Put of whatever Fit gives. -/
theorem g_put {w0 w : World} {S : Nat → Prop} {g me mc n nc : Nat} {now : Int} {E : List Ent} {C : ByteArray → Int} {A2 A3 A4 : Option Addr} {n2 n3 n4 c2 c3 c4 : Nat} (k : ByteArray) (hk : k.size ≤ maxLen) (hn : n < maxLen) (hnc : nc < maxLen) (x : Vl) (hx : VFit x) (E' : List Ent) (hE : putE k x E = E') (C' : ByteArray → Int) (hC : putC k x E C = C') (h : VC w x A2 A3 A4 n2 n3 n4 c2 c3 c4) (H : StoreSt w0 w S g me mc n nc now E C) :
    Calls Try.prog 13 #[.pointer (some ⟨g, 0, none⟩), .string k, .agg #[.int .u8 x.kind, .string x.s, .slice A2 n2 c2, .slice A3 n3 c3, .slice A4 n4 c4]] w fun e w' => e = .returned (.tuple #[]) ∧ ∃ S', Aside0 (Post w0 w w' S g me mc (n + 1) (nc + 1) now E' C' S') := by
  by_cases h0 : x.kind = 0
  · rw [h0]
    exact t_putn k hk hnc x h0 E' hE C' hC x.s A2 A3 A4 n2 n3 n4 c2 c3 c4 H
  · exact v_put k hk hn hnc x hx.vok h0 E' hE C' hC h H
/-- Same of two values. -/
theorem same_any {w : World} {x y : Vl} {A2 A3 A4 : Option Addr} {n2 n3 n4 c2 c3 c4 : Nat} {B2 B3 B4 : Option Addr} {m2 m3 m4 d2 d3 d4 : Nat} (hx : VOk x) (h : VC w x A2 A3 A4 n2 n3 n4 c2 c3 c4) (h' : VC w y B2 B3 B4 m2 m3 m4 d2 d3 d4) (hxy : x = y) :
    Calls Try.prog 19 #[.agg #[.int .u8 x.kind, .string x.s, .slice A2 n2 c2, .slice A3 n3 c3, .slice A4 n4 c4], .agg #[.int .u8 y.kind, .string y.s, .slice B2 m2 d2, .slice B3 m3 d3, .slice B4 m4 d4]] w fun e w' => e = .returned (.bool true) ∧ Aside0 (Below w.heap.size w w') := by
  subst hxy
  obtain ⟨rfl, rfl, rfl, l2, l3, l4, C2, C3, C4⟩ := h
  obtain ⟨rfl, rfl, rfl, k2, k3, k4, D2, D3, D4⟩ := h'
  obtain ⟨b, hb, hi⟩ := same_f 1000001 x.kind x.s x.l x.h x.z x.kind x.s x.l x.h x.z hx.1 hx.2.1 hx.2.2 (by have := hx.1; omega) (by have := hx.2.1; omega) (by have := hx.2.2; omega)
  obtain rfl := hi.2 ⟨rfl, rfl, rfl, rfl, rfl⟩
  refine (value_Same.calls 1000001 x.kind x.s A2 c2 x.l A3 c3 x.h A4 c4 x.z x.kind x.s B2 d2 x.l B3 d3 x.h B4 d4 x.z true w C2 l2 C3 l3 C4 l4 D2 k2 D3 k3 D4 k4 hb).mono ?_
  rintro e w' ⟨rfl, hd⟩
  exact ⟨rfl, ⟨hd⟩⟩
/-- Something that is done. -/
structure Op10 where
  kind : Int
  key : ByteArray
  v : Vl
  n : Int
  on : Bool
def kOp : Kd Op10 := Kd.iso (Kd.pair (Kd.int .u8) (Kd.pair Kd.string (Kd.pair kVl (Kd.pair (Kd.int .i64) Kd.bool)))) (fun x : Op10 => (x.kind, x.key, x.v, x.n, x.on))
/-- What is known of it. -/
structure OpOk (o : Op10) : Prop where
  kind : 0 ≤ o.kind ∧ o.kind ≤ 255
  key : o.key.size ≤ maxLen
def op0 : Op10 := ⟨0, ⟨#[]⟩, noneV, 0, false⟩
theorem add_in (ad : Addr) (a b : Nat) (hb : b ≠ 0) : ad.add (a + b) = { block := (ad.add a).block, off := (ad.add a).off + b } := by
  unfold Addr.add
  by_cases h : a = 0
  · subst h; simp [hb]
  · simp [h, hb, Nat.add_assoc]
/-- The cells of one of them. -/
theorem op_cells {w : World} {A : Option Addr} {l : List Op10} (h : kOp.C w A l.length l) {i : Nat} (hi : i < l.length) : ∃ ad p A2 A3 A4 n2 n3 n4 c2 c3 c4, A = some ad ∧ ad.add (i * 9) = p ∧ VC w (l.getD i op0).v A2 A3 A4 n2 n3 n4 c2 c3 c4 ∧
    w.cell? p = some (.int .u8 (l.getD i op0).kind) ∧ w.cell? { block := p.block, off := p.off + 1 } = some (.string (l.getD i op0).key) ∧ w.cell? { block := p.block, off := p.off + 2 } = some (.int .u8 (l.getD i op0).v.kind) ∧ w.cell? { block := p.block, off := p.off + 3 } = some (.string (l.getD i op0).v.s) ∧ w.cell? { block := p.block, off := p.off + 4 } = some (.slice A2 n2 c2) ∧ w.cell? { block := p.block, off := p.off + 5 } = some (.slice A3 n3 c3) ∧ w.cell? { block := p.block, off := p.off + 6 } = some (.slice A4 n4 c4) ∧ w.cell? { block := p.block, off := p.off + 7 } = some (.int .i64 (l.getD i op0).n) ∧ w.cell? { block := p.block, off := p.off + 8 } = some (.bool (l.getD i op0).on) := by
  obtain ⟨ad, c, rfl, h1, h2, h3⟩ := Kd.C_get h op0 (i : Int) (by omega) (by omega)
  rw [Int.toNat_natCast] at h2 h3
  obtain ⟨c0, r0, rfl, rfl, c1, r1, rfl, rfl, cv, r2, rfl, hv, c7, c8, rfl, rfl, rfl⟩ := h2
  obtain ⟨A2, A3, A4, n2, n3, n4, c2, c3, c4, rfl, hvc⟩ := kVl_open hv
  refine ⟨ad, _, A2, A3, A4, n2, n3, n4, c2, c3, c4, rfl, rfl, hvc, h3 0 _ rfl, ?_, ?_, ?_, ?_, ?_, ?_, ?_, ?_⟩
  · rw [← add_in ad (i * 9) 1 (by decide)]; exact h3 1 _ rfl
  · rw [← add_in ad (i * 9) 2 (by decide)]; exact h3 2 _ rfl
  · rw [← add_in ad (i * 9) 3 (by decide)]; exact h3 3 _ rfl
  · rw [← add_in ad (i * 9) 4 (by decide)]; exact h3 4 _ rfl
  · rw [← add_in ad (i * 9) 5 (by decide)]; exact h3 5 _ rfl
  · rw [← add_in ad (i * 9) 6 (by decide)]; exact h3 6 _ rfl
  · rw [← add_in ad (i * 9) 7 (by decide)]; exact h3 7 _ rfl
  · rw [← add_in ad (i * 9) 8 (by decide)]; exact h3 8 _ rfl
/-- The same, the cells as they are later. -/
theorem op_cells2 {w w1 : World} {A : Option Addr} {l : List Op10} (h : kOp.C w A l.length l) (hb : Below w.heap.size w w1) {i : Nat} (hi : i < l.length) : ∃ ad p A2 A3 A4 n2 n3 n4 c2 c3 c4, A = some ad ∧ ad.add (i * 9) = p ∧ VC w (l.getD i op0).v A2 A3 A4 n2 n3 n4 c2 c3 c4 ∧
    w1.cell? p = some (.int .u8 (l.getD i op0).kind) ∧ w1.cell? { block := p.block, off := p.off + 1 } = some (.string (l.getD i op0).key) ∧ w1.cell? { block := p.block, off := p.off + 2 } = some (.int .u8 (l.getD i op0).v.kind) ∧ w1.cell? { block := p.block, off := p.off + 3 } = some (.string (l.getD i op0).v.s) ∧ w1.cell? { block := p.block, off := p.off + 4 } = some (.slice A2 n2 c2) ∧ w1.cell? { block := p.block, off := p.off + 5 } = some (.slice A3 n3 c3) ∧ w1.cell? { block := p.block, off := p.off + 6 } = some (.slice A4 n4 c4) ∧ w1.cell? { block := p.block, off := p.off + 7 } = some (.int .i64 (l.getD i op0).n) ∧ w1.cell? { block := p.block, off := p.off + 8 } = some (.bool (l.getD i op0).on) := by
  obtain ⟨ad, p, A2, A3, A4, n2, n3, n4, c2, c3, c4, e, hp, hv, k0, k1, k2, k3, k4, k5, k6, k7, k8⟩ := op_cells h hi
  have hc : ∀ (a : Addr) v, w.cell? a = some v → w1.cell? a = some v := fun a v ha => (hb.cell (World.block_lt_of_cell? _ _ ha)).trans ha
  exact ⟨ad, p, A2, A3, A4, n2, n3, n4, c2, c3, c4, e, hp, hv, hc _ _ k0, hc _ _ k1, hc _ _ k2, hc _ _ k3, hc _ _ k4, hc _ _ k5, hc _ _ k6, hc _ _ k7, hc _ _ k8⟩
end Go.Proofs.Ytmhdkjihhdljlaa.X
