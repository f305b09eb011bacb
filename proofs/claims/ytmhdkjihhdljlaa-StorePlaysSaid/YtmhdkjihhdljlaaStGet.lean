/- Walks: Due, Version, Now. -/
import Derived.Test.YtmhdkjihhdljlaaMapOps
import Derived.Test.YtmhdkjihhdljlaaEOwn
import Derived.StringKeys
import Derived.Laws.Tables
import Derived.Test.YtmhdkjihhdljlaaWWords
import Derived.Test.YtmhdkjihhdljlaaWMore
import Derived.WalkSpells
import Derived.Deep.RegionWith
import Derived.Deep.QuietTactic
import Derived.BigQuiet
import Derived.LoopTactic
import Derived.Test.YtmhdkjihhdljlaaXx3
import Derived.Laws.Entries
set_option linter.unusedVariables false
set_option linter.unusedSimpArgs false
namespace Go.Proofs.Ytmhdkjihhdljlaa.X
open Go.RowKit Go.Maps Go.ChangeMaps Go.MapKept Go.Proofs.Ytmhdkjihhdljlaa.Mv Go.Proofs.YtmhdkjihhdljlaaW.PrintWords

abbrev kPair := k66
abbrev kMark := k69
/-- A value; a key with its value, its deadline (0: none), and whether it is past. -/
structure Vl where
  kind : Int
  s : ByteArray
  l : List ByteArray
  h : List S66
  z : List S69
structure Ent where
  key : ByteArray
  v : Vl
  due : Int
  past : Bool
/-- A copy of it can be made. -/
def VOk (x : Vl) : Prop := x.l.length ≤ 1000000 ∧ x.h.length ≤ 1000000 ∧ x.z.length ≤ 1000000
def noneV : Vl := ⟨0, ⟨#[]⟩, [], [], []⟩
def nm (s : ByteArray) : Lit := .string s.data.toList
theorem nm_inj {a b : ByteArray} (h : nm a = nm b) : a = b := by
  have h1 : a.data.toList = b.data.toList := by simpa [nm] using h
  have h2 := Array.toList_inj.1 h1
  cases a; cases b
  exact congrArg _ h2
theorem law9 : Keyed Try.prog 9 := string_keyed Try.underlying9
theorem key9 {s : ByteArray} (hs : s.size ≤ maxLen) : keyOf Try.prog 9 (.string s) = some (nm s) := Go.WideMaps.keyOf_string_mk Try.underlying9 hs
theorem zeroP (w : World) : (zeroValue 71).run Try.prog w = .ok (.pointer none) w := by kernel_rfl
theorem zeroI (w : World) : (zeroValue 3).run Try.prog w = .ok (.int .i64 0) w := by kernel_rfl
theorem pwlt {w : World} {g : Nat} {o : Obj} (h : w.heap[g]? = some o) : g < w.heap.size := by
  rcases Nat.lt_or_ge g w.heap.size with h' | h'
  · exact h'
  · simp [Array.getElem?_eq_none h'] at h

/-- The rows of a value lie in memory, made, behind b. -/
def RowsAt (w : World) (b : Nat) (x : Vl) (v2 v3 v4 : Value) : Prop :=
  Kd.R Kd.string 9 w b (fun _ => True) v2 x.l ∧ Kd.R kPair 66 w b (fun _ => True) v3 x.h ∧ Kd.R kMark 69 w b (fun _ => True) v4 x.z
/-- An entry at block e. -/
def EntAt (w : World) (b e : Nat) (x : Ent) : Prop :=
  ∃ v2 v3 v4, w.heap[e]? = some (.cells #[.int .u8 x.v.kind, .string x.v.s, v2, v3, v4, .int .i64 x.due, .bool x.past] 74 (0, 0)) ∧ RowsAt w b x.v v2 v3 v4
def RelE (M : Lit → Option Value) (A : List (Nat × Ent)) : Prop :=
  (∀ kl v, M kl = some v → ∃ p ∈ A, kl = nm p.2.key ∧ v = .pointer (some ⟨p.1, 0, none⟩)) ∧ ∀ p ∈ A, M (nm p.2.key) = some (.pointer (some ⟨p.1, 0, none⟩))
def RelC (N : Lit → Option Value) (C : ByteArray → Int) : Prop := (∀ s, N (nm s) = none → C s = 0) ∧ ∀ s v, N (nm s) = some v → v = .int .i64 (C s)
/-- The order of keys. -/
def KSrt (A : List (Nat × Ent)) : Prop := A.Pairwise fun p q => p.2.key.data.toList < q.2.key.data.toList
/-- The store at block g: the time, its entries A (each with its block), how often something became of each key. -/
structure StoreAt (w : World) (b g me mc n nc : Nat) (now : Int) (A : List (Nat × Ent)) (C : ByteArray → Int) : Prop where
  top : w.heap[g]? = some (.cells #[.int .i64 now, .map (some me), .map (some mc)] 62 (0, 0))
  ents : ∃ M, MapV Try.prog 9 w me n M ∧ RelE M A
  cnts : ∃ N, MapV Try.prog 9 w mc nc N ∧ RelC N C
  at_ : ∀ p ∈ A, EntAt w b p.1 p.2
  blks : (A.map (·.1)).Nodup
  srt : KSrt A
  keys : ∀ p ∈ A, p.2.key.size ≤ maxLen
  len : A.length ≤ n
  oks : ∀ p ∈ A, VOk p.2.v
  ne : me ≠ mc
  hg : b ≤ g
  hme : b ≤ me
  hmc : b ≤ mc
  hA : ∀ p ∈ A, b ≤ p.1

theorem RowsAt.move {w w1 : World} {b : Nat} {x : Vl} {v2 v3 v4 : Value} (h : RowsAt w b x v2 v3 v4) (hk : ∀ (k : Nat) (cs : Array Value) (t : TypeId), w.heap[k]? = some (.cells cs t (0, 0)) → t ≠ 74 → t ≠ 62 → t ≠ 26 → w1.heap[k]? = w.heap[k]?) : RowsAt w1 b x v2 v3 v4 := by
  refine ⟨?_, ?_, ?_⟩
  · refine Kd.R_mono (Kd.R_move (Kd.R_bound h.1) (fun k hb => ?_)) (fun _ h => h.1)
    obtain ⟨_, _, _, q, hq, cells, hc⟩ := hb
    have hq : q ∈ [9] := hq
    rw [List.mem_singleton.1 hq] at hc
    exact hk k cells _ hc (by decide) (by decide) (by decide)
  · refine Kd.R_mono (Kd.R_move (Kd.R_bound h.2.1) (fun k hb => ?_)) (fun _ h => h.1)
    obtain ⟨_, _, _, q, hq, cells, hc⟩ := hb
    have hq : q ∈ [66] := hq
    rw [List.mem_singleton.1 hq] at hc
    exact hk k cells _ hc (by decide) (by decide) (by decide)
  · refine Kd.R_mono (Kd.R_move (Kd.R_bound h.2.2) (fun k hb => ?_)) (fun _ h => h.1)
    obtain ⟨_, _, _, q, hq, cells, hc⟩ := hb
    have hq : q ∈ [69] := hq
    rw [List.mem_singleton.1 hq] at hc
    exact hk k cells _ hc (by decide) (by decide) (by decide)
theorem MapV.noobj {P : Program} {k : TypeId} {w : World} {m n : Nat} {M : Lit → Option Value} (h : MapV P k w m n M) (cs : Array Value) (t : TypeId) (fz : Nat × Nat) : w.heap[m]? ≠ some (.cells cs t fz) := by
  obtain ⟨D, ⟨es, clock, h1, _⟩, _⟩ := h
  rw [h1]
  intro e
  cases e
section
variable {w w1 : World} {b g me mc n nc : Nat} {now : Int} {A : List (Nat × Ent)} {C : ByteArray → Int}
theorem StoreAt.lt (h : StoreAt w b g me mc n nc now A C) : g < w.heap.size ∧ me < w.heap.size ∧ mc < w.heap.size ∧ g ≠ me ∧ g ≠ mc := by
  obtain ⟨M, hM, _⟩ := h.ents
  obtain ⟨N, hN, _⟩ := h.cnts
  refine ⟨pwlt h.top, hM.lt, hN.lt, ?_, ?_⟩
  · rintro rfl; exact MapV.noobj hM _ _ _ h.top
  · rintro rfl; exact MapV.noobj hN _ _ _ h.top
theorem EntAt.lt {e : Nat} {x : Ent} (h : EntAt w b e x) : e < w.heap.size := by
  obtain ⟨_, _, _, h, _⟩ := h
  exact pwlt h
theorem EntAt.move {e : Nat} {x : Ent} (h : EntAt w b e x) (he : w1.heap[e]? = w.heap[e]?) (hk : ∀ (k : Nat) (cs : Array Value) (t : TypeId), w.heap[k]? = some (.cells cs t (0, 0)) → t ≠ 74 → t ≠ 62 → t ≠ 26 → w1.heap[k]? = w.heap[k]?) : EntAt w1 b e x := by
  obtain ⟨v2, v3, v4, h1, h2⟩ := h
  exact ⟨v2, v3, v4, he.trans h1, h2.move hk⟩
theorem StoreAt.below (h : StoreAt w b g me mc n nc now A C) (hb : Below w.heap.size w w1) : StoreAt w1 b g me mc n nc now A C := by
  have hl := h.lt
  obtain ⟨M, hM, hR⟩ := h.ents
  obtain ⟨N, hN, hC⟩ := h.cnts
  exact { h with top := (hb.block g hl.1).trans h.top, ents := ⟨M, hM.same (hb.block me hl.2.1), hR⟩, cnts := ⟨N, hN.same (hb.block mc hl.2.2.1), hC⟩, at_ := fun p hp => (h.at_ p hp).move (hb.block _ (h.at_ p hp).lt) (fun k cs t hk _ _ _ => hb.block k (pwlt hk)) }
/-- Whatever becomes of a value's own block. -/
theorem StoreAt.off (h : StoreAt w b g me mc n nc now A C) {q : Nat} {cs : Array Value} (hq : w.heap[q]? = some (.cells cs 26 (0, 0))) (hk : ∀ k, k ≠ q → w1.heap[k]? = w.heap[k]?) : StoreAt w1 b g me mc n nc now A C := by
  have hl := h.lt
  obtain ⟨M, hM, hR⟩ := h.ents
  obtain ⟨N, hN, hC⟩ := h.cnts
  have hc : ∀ (k : Nat) (cs1 : Array Value) (t : TypeId), w.heap[k]? = some (.cells cs1 t (0, 0)) → t ≠ 26 → w1.heap[k]? = w.heap[k]? := by
    intro k cs1 t h1 ht
    refine hk k ?_
    rintro rfl
    rw [hq] at h1
    injection h1 with h1
    injection h1 with _ h1 _
    exact ht h1.symm
  exact { h with top := (hc g _ _ h.top (by decide)).trans h.top, ents := ⟨M, hM.same (hk me fun e => by subst e; exact MapV.noobj hM _ _ _ hq), hR⟩, cnts := ⟨N, hN.same (hk mc fun e => by subst e; exact MapV.noobj hN _ _ _ hq), hC⟩, at_ := fun p hp => (h.at_ p hp).move (by obtain ⟨_, _, _, h1, _⟩ := h.at_ p hp; exact hc _ _ _ h1 (by decide)) (fun k cs t hk _ _ ht => hc k cs t hk ht) }
theorem set5 {q : Nat} {a0 a1 a2 a3 a4 : Value} (h : w.heap[q]? = some (.cells #[a0, a1, a2, a3, a4] 26 (0, 0))) (b0 b1 b2 b3 b4 : Value) :
    (((((w.setCell ⟨q, 0, none⟩ b0).setCell ⟨q, 1, none⟩ b1).setCell ⟨q, 2, none⟩ b2).setCell ⟨q, 3, none⟩ b3).setCell ⟨q, 4, none⟩ b4).heap[q]? = some (.cells #[b0, b1, b2, b3, b4] 26 (0, 0)) :=
  blk_put (blk_put (blk_put (blk_put (blk_put h 0 b0 rfl) 1 b1 rfl) 2 b2 rfl) 3 b3 rfl) 4 b4 rfl
theorem off5 (w : World) (q : Nat) (b0 b1 b2 b3 b4 : Value) (k : Nat) (hk : k ≠ q) :
    (((((w.setCell ⟨q, 0, none⟩ b0).setCell ⟨q, 1, none⟩ b1).setCell ⟨q, 2, none⟩ b2).setCell ⟨q, 3, none⟩ b3).setCell ⟨q, 4, none⟩ b4).heap[k]? = w.heap[k]? := by
  rw [Below.heap_setCell _ _ _ _ hk, Below.heap_setCell _ _ _ _ hk, Below.heap_setCell _ _ _ _ hk, Below.heap_setCell _ _ _ _ hk, Below.heap_setCell _ _ _ _ hk]
/-- The blocks of a store that a call may turn. -/
def SB (g me mc : Nat) (A : List (Nat × Ent)) : Nat → Prop := fun k => k = g ∨ k = me ∨ k = mc ∨ ∃ p ∈ A, k = p.1
end
end Go.Proofs.Ytmhdkjihhdljlaa.X
namespace Go.Proofs.Ytmhdkjihhdljlaa.X
open Go.RowKit Go.Maps Go.ChangeMaps Go.MapKept Go.Proofs.Ytmhdkjihhdljlaa.Mv Go.Proofs.YtmhdkjihhdljlaaW.PrintWords

def fnd (k : ByteArray) (A : List (Nat × Ent)) : Option (Nat × Ent) := A.find? fun p => decide (p.2.key = k)
/-- A key that is past is let go of. -/
def letA (k : ByteArray) (A : List (Nat × Ent)) : List (Nat × Ent) := A.filter fun p => !(decide (p.2.key = k) && p.2.past)
def dropA (k : ByteArray) (A : List (Nat × Ent)) : List (Nat × Ent) := A.filter fun p => decide (p.2.key ≠ k)
def ptrOf : Option (Nat × Ent) → Value
  | none => .pointer none
  | some p => .pointer (some ⟨p.1, 0, none⟩)

theorem fnd_some {k : ByteArray} {A : List (Nat × Ent)} {p : Nat × Ent} (h : fnd k A = some p) : p ∈ A ∧ p.2.key = k := by
  unfold fnd at h
  exact ⟨List.mem_of_find?_eq_some h, by simpa using List.find?_some h⟩
theorem fnd_none {k : ByteArray} {A : List (Nat × Ent)} (h : fnd k A = none) : ∀ p ∈ A, p.2.key ≠ k := by
  unfold fnd at h
  intro p hp
  have := List.find?_eq_none.1 h p hp
  simpa using this
theorem key_uniq {A : List (Nat × Ent)} (hs : KSrt A) {p q : Nat × Ent} (hp : p ∈ A) (hq : q ∈ A) (h : p.2.key = q.2.key) : p = q := by
  induction A with
  | nil => cases hp
  | cons a A ih =>
    obtain ⟨h1, h2⟩ := List.pairwise_cons.1 hs
    rcases List.mem_cons.1 hp with e1 | hp' <;> rcases List.mem_cons.1 hq with e2 | hq'
    · rw [e1, e2]
    · have := h1 q hq'
      rw [← e1, h] at this
      exact absurd this (List.lt_irrefl _)
    · have := h1 p hp'
      rw [← e2, h] at this
      exact absurd this (List.lt_irrefl _)
    · exact ih h2 hp' hq'
theorem fnd_mem {k : ByteArray} {A : List (Nat × Ent)} (hs : KSrt A) {p : Nat × Ent} (hp : p ∈ A) (hk : p.2.key = k) : fnd k A = some p := by
  cases h : fnd k A with
  | none => exact absurd hk (fnd_none h p hp)
  | some q =>
    obtain ⟨h1, h2⟩ := fnd_some h
    rw [key_uniq hs h1 hp (by rw [h2, hk])]
theorem let_past {k : ByteArray} {A : List (Nat × Ent)} (hs : KSrt A) {p : Nat × Ent} (h : fnd k A = some p) (hp : p.2.past = true) : letA k A = dropA k A ∧ fnd k (letA k A) = none := by
  obtain ⟨h1, h2⟩ := fnd_some h
  have e : letA k A = dropA k A := by
    unfold letA dropA
    refine List.filter_congr fun q hq => ?_
    by_cases hk : q.2.key = k
    · have := key_uniq hs hq h1 (by rw [hk, h2])
      subst this
      simp [hk, hp]
    · simp [hk]
  refine ⟨e, ?_⟩
  rw [e]
  unfold fnd
  rw [List.find?_eq_none]
  intro q hq
  have := (List.mem_filter.1 hq).2
  simpa using this
theorem let_no {k : ByteArray} {A : List (Nat × Ent)} (hs : KSrt A) (h : ∀ p, fnd k A = some p → p.2.past = false) : letA k A = A := by
  unfold letA
  refine List.filter_eq_self.2 fun q hq => ?_
  by_cases hk : q.2.key = k
  · have := h q (fnd_mem hs hq hk)
    simp [this]
  · simp [hk]

section
variable {w w1 : World} {b g me mc n nc : Nat} {now : Int} {A : List (Nat × Ent)} {C : ByteArray → Int}
theorem relE_drop {M : Lit → Option Value} (h : RelE M A) (k : ByteArray) : RelE (Mv.upd M (nm k) none) (dropA k A) := by
  refine ⟨fun kl v hv => ?_, fun p hp => ?_⟩
  · unfold Mv.upd at hv
    split at hv
    · cases hv
    · rename_i hne
      obtain ⟨p, hp, e1, e2⟩ := h.1 kl v hv
      exact ⟨p, List.mem_filter.2 ⟨hp, by simp; rintro rfl; exact hne e1⟩, e1, e2⟩
  · obtain ⟨h1, h2⟩ := List.mem_filter.1 hp
    unfold Mv.upd
    rw [if_neg (fun e => by have := nm_inj e; simp at h2; exact h2 this)]
    exact h.2 p h1
/-- A key's entry is dropped, in memory. -/
theorem StoreAt.drop (h : StoreAt w b g me mc n nc now A C) (k : ByteArray) {M : Lit → Option Value} (hR : RelE M A) (hM' : MapV Try.prog 9 w1 me n (Mv.upd M (nm k) none)) (ht : w.mapTurned w1 me) : StoreAt w1 b g me mc n nc now (dropA k A) C := by
  have hl := h.lt
  obtain ⟨N, hN, hC⟩ := h.cnts
  have hcell : ∀ (k : Nat) (cs : Array Value) (t : TypeId), w.heap[k]? = some (.cells cs t (0, 0)) → w1.heap[k]? = w.heap[k]? := by
    intro k cs t hk
    refine turned_block ht (fun e => ?_)
    subst e
    obtain ⟨M0, hM0, _⟩ := h.ents
    exact MapV.noobj hM0 _ _ _ hk
  refine ⟨(hcell g _ _ h.top).trans h.top, ⟨_, hM', relE_drop hR k⟩, ⟨N, hN.same (turned_block ht (Ne.symm h.ne)), hC⟩, fun p hp => ?_, h.blks.sublist ((List.filter_sublist).map _), List.Pairwise.filter _ h.srt, fun p hp => h.keys p (List.mem_filter.1 hp).1, Nat.le_trans (List.length_filter_le _ _) h.len, fun p hp => h.oks p (List.mem_filter.1 hp).1, h.ne, h.hg, h.hme, h.hmc, fun p hp => h.hA p (List.mem_filter.1 hp).1⟩
  have hE := h.at_ p (List.mem_filter.1 hp).1
  obtain ⟨v2, v3, v4, h1, h2⟩ := hE
  exact ⟨v2, v3, v4, (hcell _ _ _ h1).trans h1, h2.move (fun k cs t hk _ _ _ => hcell k cs t hk)⟩

set_option maxHeartbeats 400000 in
theorem new_any (w : World) : Calls Try.prog 10 #[] w fun e w' => ∃ g me mc, e = .returned (.pointer (some ⟨g, 0, none⟩)) ∧ Aside0 (StoreAt w' w.heap.size g me mc 0 0 0 [] (fun _ => 0)) ∧ Aside0 (Below w.heap.size w w') := by
  have hmm := @run_makeMap Try.prog
  go_enter Try.func10, Try.ntmps10
  go_wp2
  go_ret
  refine ⟨_, w.heap.size, w.heap.size + 1, rfl, ⟨?_, ⟨fun _ => none, (MapV.made w _ _).same ?_, ⟨fun kl v h => (by cases h), fun p hp => (by cases hp)⟩⟩, ⟨fun _ => none, ?_, ⟨fun _ _ => rfl, fun s v h => (by cases h)⟩⟩, fun p hp => (by cases hp), List.nodup_nil, List.Pairwise.nil, fun p hp => (by cases hp), Nat.le_refl _, fun p hp => (by cases hp), by omega, ?_, Nat.le_refl _, by omega, fun p hp => (by cases hp)⟩, ⟨?_⟩⟩
  · have := heap_alloc_new ((w.alloc (.map #[] 0)).alloc (.map #[] 0)) (.cells #[.int .i64 0, .map (some w.heap.size), .map (some (w.heap.size + 1))] 62)
    simpa using this
  · exact (((Below.refl (w.heap.size + 1) (w.alloc (.map #[] 0))).alloc (by simp) _).alloc (by simp) _).block w.heap.size (by omega)
  · have h := MapV.made (w.alloc (.map #[] 0)) Try.prog 9
    have e : (w.alloc (.map #[] 0)).heap.size = w.heap.size + 1 := by simp
    rw [e] at h
    exact h.same (((Below.refl (w.heap.size + 2) _).alloc (by simp) _).block (w.heap.size + 1) (by omega))
  · omega
  · exact (((Below.refl _ _).alloc (Nat.le_refl _) _).alloc (by simp) _).alloc (by simp; omega) _

set_option maxHeartbeats 1000000 in
set_option maxRecDepth 100000 in
theorem find_any (k : ByteArray) (hk : k.size ≤ maxLen) (H : StoreAt w b g me mc n nc now A C) :
    Calls Try.prog 39 #[.pointer (some ⟨g, 0, none⟩), .string k] w fun e w' => e = .returned (ptrOf (fnd k (letA k A))) ∧ Aside0 (StoreAt w' b g me mc n nc now (letA k A) C) ∧ Aside0 (Kp (· = me) w w') := by
  obtain ⟨M, hM, hR⟩ := H.ents
  have hl := H.lt
  have c1 : w.cell? ⟨g, 1, none⟩ = some (.map (some me)) := by simp [World.cell?, H.top]
  have hkey := key9 hk
  have HH := Aside0.mk H
  have HM := Aside0.mk hM
  have HR := Aside0.mk hR
  have hlook := (hM.lookup law9 Try.underlying59 (zeroP w) hkey).1
  clear hM hR H
  go_enter Try.func39, Try.ntmps39
  cases hf : fnd k A with
  | none =>
    have h0 : M (nm k) = none := by
      cases hm : M (nm k) with
      | none => rfl
      | some v =>
        obtain ⟨p, hp, e1, _⟩ := HR.out.1 _ _ hm
        exact absurd (nm_inj e1).symm (fnd_none hf p hp)
    rw [h0] at hlook
    have HLE := Aside0.mk (let_no HH.out.srt (fun p hp => by rw [hf] at hp; cases hp))
    have HF := Aside0.mk hf
    clear hf h0
    go_wp2
    go_ret
    rw [HLE.out, HF.out]
    exact ⟨rfl, HH, ⟨Kp.refl _ _⟩⟩
  | some p =>
    obtain ⟨hp, hpk⟩ := fnd_some hf
    have h0 : M (nm k) = some (.pointer (some ⟨p.1, 0, none⟩)) := by rw [← hpk]; exact HR.out.2 p hp
    rw [h0] at hlook
    obtain ⟨v2, v3, v4, he, _⟩ := HH.out.at_ p hp
    have c6 : w.cell? ⟨p.1, 6, none⟩ = some (.bool p.2.past) := by simp [World.cell?, he]
    have HF := Aside0.mk hf
    obtain ⟨pe, px⟩ := p
    simp only at hlook c6 hpk
    cases hpast : px.past with
    | false =>
      rw [hpast] at c6
      have HLE := Aside0.mk (let_no HH.out.srt (fun q hq => by rw [hf] at hq; cases hq; exact hpast))
      clear hf h0 he hp hpk hpast
      go_wp2
      go_ret
      rw [HLE.out, HF.out]
      exact ⟨rfl, HH, ⟨Kp.refl _ _⟩⟩
    | true =>
      rw [hpast] at c6
      have HLE := Aside0.mk (let_past HH.out.srt hf hpast)
      clear hf h0 he hp hpk hpast
      obtain ⟨w3, hrun, hM3, ht3⟩ := HM.out.drop law9 Try.underlying59 hkey 0
      have HS3 := Aside0.mk (HH.out.drop k HR.out hM3 ht3)
      have HK3 := Aside0.mk ((Kp.refl (· = me) w).turned ht3 (.inl rfl))
      clear hM3 ht3
      go_wp2
      go_ret
      rw [HLE.out.2, HLE.out.1]
      exact ⟨rfl, HS3, HK3⟩
end
end Go.Proofs.Ytmhdkjihhdljlaa.X
namespace Go.Proofs.Ytmhdkjihhdljlaa.X
open Go.RowKit Go.Maps Go.ChangeMaps Go.MapKept Go.Proofs.Ytmhdkjihhdljlaa.Mv Go.Proofs.YtmhdkjihhdljlaaW.PrintWords

def valO : Option (Nat × Ent) → Vl
  | none => noneV
  | some p => p.2.v
def dueO : Option (Nat × Ent) → Int
  | none => 0
  | some p => if 0 < p.2.due then p.2.due else 0
def onO : Option (Nat × Ent) → Bool
  | none => false
  | some p => decide (0 < p.2.due)
theorem own_f {x : Vl} (h : VOk x) : value_Own.f x.kind x.s x.l x.h x.z = some (x.kind, x.s, x.l, x.h, x.z) := by
  obtain ⟨h1, h2, h3⟩ := h
  unfold value_Own.f value_own_string.f api_Pair_50.f api_Mark_51.f
  simp [h1, h2, h3]
/-- A value in memory, as the walk reads it. -/
theorem RowsAt.parts {w : World} {b : Nat} {x : Vl} {v2 v3 v4 : Value} (h : RowsAt w b x v2 v3 v4) : ∃ A2 c2 A3 c3 A4 c4, v2 = .slice A2 x.l.length c2 ∧ v3 = .slice A3 x.h.length c3 ∧ v4 = .slice A4 x.z.length c4 ∧ x.l.length ≤ c2 ∧ x.h.length ≤ c3 ∧ x.z.length ≤ c4 ∧ Kd.C Kd.string w A2 x.l.length x.l ∧ Kd.C kPair w A3 x.h.length x.h ∧ Kd.C kMark w A4 x.z.length x.z := by
  obtain ⟨h2, h3, h4⟩ := h
  obtain ⟨A2, c2, rfl⟩ := Kd.R_slice h2
  obtain ⟨A3, c3, rfl⟩ := Kd.R_slice h3
  obtain ⟨A4, c4, rfl⟩ := Kd.R_slice h4
  have e2 := Kd.R_reads' h2
  have e3 := Kd.R_reads' h3
  have e4 := Kd.R_reads' h4
  exact ⟨A2, c2, A3, c3, A4, c4, rfl, rfl, rfl, e2.2.1, e3.2.1, e4.2.1, e2.2.2, e3.2.2, e4.2.2⟩
section
variable {w w1 : World} {b g me mc n nc : Nat} {now : Int} {A : List (Nat × Ent)} {C : ByteArray → Int}
/-- The cells of a key's entry. -/
theorem StoreAt.cells (h : StoreAt w b g me mc n nc now A C) {p : Nat × Ent} (hp : p ∈ A) : ∃ v2 v3 v4, RowsAt w b p.2.v v2 v3 v4 ∧ w.cell? ⟨p.1, 0, none⟩ = some (.int .u8 p.2.v.kind) ∧ w.cell? ⟨p.1, 1, none⟩ = some (.string p.2.v.s) ∧ w.cell? ⟨p.1, 2, none⟩ = some v2 ∧ w.cell? ⟨p.1, 3, none⟩ = some v3 ∧ w.cell? ⟨p.1, 4, none⟩ = some v4 ∧ w.cell? ⟨p.1, 5, none⟩ = some (.int .i64 p.2.due) ∧ w.cell? ⟨p.1, 6, none⟩ = some (.bool p.2.past) := by
  obtain ⟨v2, v3, v4, he, hr⟩ := h.at_ p hp
  refine ⟨v2, v3, v4, hr, ?_, ?_, ?_, ?_, ?_, ?_, ?_⟩ <;> simp [World.cell?, he]
set_option maxHeartbeats 1000000 in
set_option maxRecDepth 100000 in
theorem get_any (k : ByteArray) (hk : k.size ≤ maxLen) (H : StoreAt w b g me mc n nc now A C) :
    Calls Try.prog 16 #[.pointer (some ⟨g, 0, none⟩), .string k] w fun e w' => ∃ v2 v3 v4, e = .returned (.agg #[.int .u8 (valO (fnd k (letA k A))).kind, .string (valO (fnd k (letA k A))).s, v2, v3, v4]) ∧ Aside0 (RowsAt w' w.heap.size (valO (fnd k (letA k A))) v2 v3 v4) ∧ Aside0 (StoreAt w' b g me mc n nc now (letA k A) C) ∧ Aside0 (Kp (· = me) w w') := by
  obtain ⟨w0, hw0⟩ : ∃ w0, w.alloc (.cells #[.int .u8 0, .string ⟨#[]⟩, .slice none 0 0, .slice none 0 0, .slice none 0 0] 26) = w0 := ⟨_, rfl⟩
  have hb0 : w0.heap[w.heap.size]? = some (.cells #[.int .u8 0, .string ⟨#[]⟩, .slice none 0 0, .slice none 0 0, .slice none 0 0] 26 (0, 0)) := by rw [← hw0]; have := heap_alloc_new w (.cells #[.int .u8 0, .string ⟨#[]⟩, .slice none 0 0, .slice none 0 0, .slice none 0 0] 26); simpa using this
  have HB0 := Aside0.mk (show Below w.heap.size w w0 by rw [← hw0]; exact (Below.refl _ _).alloc (Nat.le_refl _) _)
  have HH := Aside0.mk (H.below HB0.out)
  have HL0 := Aside0.mk H.lt
  have HS0 := Aside0.mk HB0.out.size
  have HZ := Aside0.mk hb0
  clear H hb0
  have F := Aside0.mk (find_any k hk HH.out)
  cases hf : fnd k (letA k A) with
  | none =>
    rw [hf] at F
    simp only [ptrOf] at F
    go_enter Try.func16, Try.ntmps16
    go_wp2_with fail
    refine F.out.mono ?_
    rintro e w1 ⟨rfl, H1, K1⟩
    have HK := Aside0.mk ((Kp.of_below (S := (· = me)) HB0.out).trans K1.out)
    have HZ1 := Aside0.mk ((K1.out.block w.heap.size (pwlt HZ.out) (by have := HL0.out; omega)).trans HZ.out)
    have z0 : w1.cell? ⟨w.heap.size, 0, none⟩ = some (.int .u8 0) := by simp [World.cell?, HZ1.out]
    have z1 : w1.cell? ⟨w.heap.size, 1, none⟩ = some (.string ⟨#[]⟩) := by simp [World.cell?, HZ1.out]
    have z2 : w1.cell? ⟨w.heap.size, 2, none⟩ = some (.slice none 0 0) := by simp [World.cell?, HZ1.out]
    have z3 : w1.cell? ⟨w.heap.size, 3, none⟩ = some (.slice none 0 0) := by simp [World.cell?, HZ1.out]
    have z4 : w1.cell? ⟨w.heap.size, 4, none⟩ = some (.slice none 0 0) := by simp [World.cell?, HZ1.out]
    have f0 : w1.frozen? ⟨w.heap.size, 0, none⟩ = false := by simp [World.frozen?, HZ1.out]
    have f1 : w1.frozen? ⟨w.heap.size, 1, none⟩ = false := by simp [World.frozen?, HZ1.out]
    have f2 : w1.frozen? ⟨w.heap.size, 2, none⟩ = false := by simp [World.frozen?, HZ1.out]
    have f3 : w1.frozen? ⟨w.heap.size, 3, none⟩ = false := by simp [World.frozen?, HZ1.out]
    have f4 : w1.frozen? ⟨w.heap.size, 4, none⟩ = false := by simp [World.frozen?, HZ1.out]
    go_wp2
    refine bodyPost_ret (results_cell_row rfl _ _ w.heap.size 26 #[.int .u8 0, .string ⟨#[]⟩, .slice none 0 0, .slice none 0 0, .slice none 0 0] (0, 0) _ rfl (set5 HZ1.out _ _ _ _ _) Try.underlying26 rfl (by kernel_rfl)) rfl ?_
    exact ⟨_, _, _, rfl, ⟨Kd.R_nil _ _ _ _ _, Kd.R_nil _ _ _ _ _, Kd.R_nil _ _ _ _ _⟩, ⟨H1.out.off HZ1.out (off5 _ _ _ _ _ _ _)⟩, ⟨((((HK.out.setCell (.inr (Nat.le_refl _)) _).setCell (.inr (Nat.le_refl _)) _).setCell (.inr (Nat.le_refl _)) _).setCell (.inr (Nat.le_refl _)) _).setCell (.inr (Nat.le_refl _)) _⟩⟩
  | some p =>
    rw [hf] at F
    simp only [ptrOf] at F
    obtain ⟨pe, px⟩ := p
    obtain ⟨pk, ⟨kd, s, l, h, z⟩, pd, pp⟩ := px
    have HP := Aside0.mk (fnd_some hf).1
    simp only [valO] at *
    clear hf
    go_enter Try.func16, Try.ntmps16
    go_wp2_with fail
    refine F.out.mono ?_
    rintro e w1 ⟨rfl, H1, K1⟩
    have hvo := Aside0.mk (own_f (H1.out.oks _ HP.out))
    obtain ⟨v2, v3, v4, hr, d0, d1, d2, d3, d4, d5, d6⟩ := H1.out.cells HP.out
    obtain ⟨A2, c2, A3, c3, A4, c4, rfl, rfl, rfl, l2, l3, l4, C2, C3, C4⟩ := hr.parts
    have HC := Aside0.mk (And.intro C2 (And.intro C3 C4))
    have HL := Aside0.mk (And.intro l2 (And.intro l3 l4))
    have HK := Aside0.mk ((Kp.of_below (S := (· = me)) HB0.out).trans K1.out)
    simp only at *
    clear hr C2 C3 C4 l2 l3 l4
    have HZ1 := Aside0.mk ((K1.out.block w.heap.size (pwlt HZ.out) (by have := HL0.out; omega)).trans HZ.out)
    go_wp2_with fail
    refine (value_Own.calls kd s _ _ l _ _ h _ _ z kd s l h z _ HC.out.1 HL.out.1 HC.out.2.1 HL.out.2.1 HC.out.2.2 HL.out.2.2 hvo.out).mono ?_
    rintro e w2 ⟨v2, v3, v4, rfl, R2, R3, R4, B2⟩
    have HB2 := Aside0.mk B2
    have hb2 := (B2.block w.heap.size (pwlt HZ1.out)).trans HZ1.out
    obtain ⟨E2, e2, rfl⟩ := Kd.R_slice R2
    obtain ⟨E3, e3, rfl⟩ := Kd.R_slice R3
    obtain ⟨E4, e4, rfl⟩ := Kd.R_slice R4
    have HR := Aside0.mk (And.intro R2 (And.intro R3 R4))
    clear R2 R3 R4 B2 d0 d1 d2 d3 d4 d5 d6
    have z0 : w2.cell? ⟨w.heap.size, 0, none⟩ = some (.int .u8 0) := by simp [World.cell?, hb2]
    have z1 : w2.cell? ⟨w.heap.size, 1, none⟩ = some (.string ⟨#[]⟩) := by simp [World.cell?, hb2]
    have z2 : w2.cell? ⟨w.heap.size, 2, none⟩ = some (.slice none 0 0) := by simp [World.cell?, hb2]
    have z3 : w2.cell? ⟨w.heap.size, 3, none⟩ = some (.slice none 0 0) := by simp [World.cell?, hb2]
    have z4 : w2.cell? ⟨w.heap.size, 4, none⟩ = some (.slice none 0 0) := by simp [World.cell?, hb2]
    have f0 : w2.frozen? ⟨w.heap.size, 0, none⟩ = false := by simp [World.frozen?, hb2]
    have f1 : w2.frozen? ⟨w.heap.size, 1, none⟩ = false := by simp [World.frozen?, hb2]
    have f2 : w2.frozen? ⟨w.heap.size, 2, none⟩ = false := by simp [World.frozen?, hb2]
    have f3 : w2.frozen? ⟨w.heap.size, 3, none⟩ = false := by simp [World.frozen?, hb2]
    have f4 : w2.frozen? ⟨w.heap.size, 4, none⟩ = false := by simp [World.frozen?, hb2]
    clear hb2
    go_wp2
    have hs := HK.out.size
    have hb2 := (HB2.out.block w.heap.size (pwlt HZ1.out)).trans HZ1.out
    refine bodyPost_ret (results_cell_row rfl _ _ w.heap.size 26 #[.int .u8 kd, .string s, .slice E2 l.length e2, .slice E3 h.length e3, .slice E4 z.length e4] (0, 0) _ rfl (set5 hb2 _ _ _ _ _) Try.underlying26 rfl (by kernel_rfl)) rfl ?_
    have HR2 : RowsAt w2 w.heap.size ⟨kd, s, l, h, z⟩ (.slice E2 l.length e2) (.slice E3 h.length e3) (.slice E4 z.length e4) := ⟨Kd.R_lower HR.out.1 hs, Kd.R_lower HR.out.2.1 hs, Kd.R_lower HR.out.2.2 hs⟩
    have HK2 := HK.out.trans (Kp.of_below HB2.out)
    refine ⟨_, _, _, rfl, ⟨HR2.move fun k cs t hk _ _ ht => off5 _ _ _ _ _ _ _ k ?_⟩, ⟨(H1.out.below HB2.out).off hb2 (off5 _ _ _ _ _ _ _)⟩, ⟨((((HK2.setCell (.inr (Nat.le_refl _)) _).setCell (.inr (Nat.le_refl _)) _).setCell (.inr (Nat.le_refl _)) _).setCell (.inr (Nat.le_refl _)) _).setCell (.inr (Nat.le_refl _)) _⟩⟩
    rintro rfl
    rw [hb2] at hk
    injection hk with hk
    injection hk with _ hk _
    exact ht hk.symm
end
end Go.Proofs.Ytmhdkjihhdljlaa.X
namespace Go.Proofs.Ytmhdkjihhdljlaa.X
open Go.RowKit Go.Maps Go.ChangeMaps Go.MapKept Go.Proofs.Ytmhdkjihhdljlaa.Mv Go.Proofs.YtmhdkjihhdljlaaW.PrintWords
section
variable {w w1 : World} {b g me mc n nc : Nat} {now : Int} {A : List (Nat × Ent)} {C : ByteArray → Int}
set_option maxHeartbeats 1000000 in
set_option maxRecDepth 100000 in
theorem due_any (k : ByteArray) (hk : k.size ≤ maxLen) (H : StoreAt w b g me mc n nc now A C) :
    Calls Try.prog 14 #[.pointer (some ⟨g, 0, none⟩), .string k] w fun e w' => e = .returned (.tuple #[.int .i64 (dueO (fnd k (letA k A))), .bool (onO (fnd k (letA k A)))]) ∧ Aside0 (StoreAt w' b g me mc n nc now (letA k A) C) ∧ Aside0 (Kp (· = me) w w') := by
  have F := Aside0.mk (find_any k hk H)
  cases hf : fnd k (letA k A) with
  | none =>
    rw [hf] at F
    simp only [ptrOf] at F
    clear H
    go_enter Try.func14, Try.ntmps14
    go_wp2_with fail
    refine F.out.mono ?_
    rintro e w1 ⟨rfl, H1, K1⟩
    go_wp2
    go_ret2
    exact ⟨rfl, H1, K1⟩
  | some p =>
    rw [hf] at F
    simp only [ptrOf] at F
    obtain ⟨pe, px⟩ := p
    obtain ⟨pk, x, pd, pp⟩ := px
    have HP := Aside0.mk (fnd_some hf).1
    simp only at *
    clear hf H
    go_enter Try.func14, Try.ntmps14
    go_wp2_with fail
    refine F.out.mono ?_
    rintro e w1 ⟨rfl, H1, K1⟩
    obtain ⟨v2, v3, v4, hr, d0, d1, d2, d3, d4, d5, d6⟩ := H1.out.cells HP.out
    simp only at d5
    clear hr d0 d1 d2 d3 d4 d6
    by_cases hd : 0 < pd
    · have hd' : (decide (pd > 0)) = true := by simpa using hd
      have e1 : dueO (some (pe, ⟨pk, x, pd, pp⟩)) = pd := by simp [dueO, hd]
      have e2 : onO (some (pe, ⟨pk, x, pd, pp⟩)) = true := by simp [onO, hd]
      have E := Aside0.mk (And.intro e1 e2)
      clear e1 e2
      go_wp2
      go_ret2
      rw [E.out.1, E.out.2]
      exact ⟨rfl, H1, K1⟩
    · have hd' : (decide (pd > 0)) = false := by simpa using hd
      have e1 : dueO (some (pe, ⟨pk, x, pd, pp⟩)) = 0 := by simp [dueO, hd]
      have e2 : onO (some (pe, ⟨pk, x, pd, pp⟩)) = false := by simp [onO, hd]
      have E := Aside0.mk (And.intro e1 e2)
      clear e1 e2
      go_wp2
      go_ret2
      rw [E.out.1, E.out.2]
      exact ⟨rfl, H1, K1⟩
set_option maxHeartbeats 1000000 in
theorem now_any (H : StoreAt w b g me mc n nc now A C) :
    Calls Try.prog 20 #[.pointer (some ⟨g, 0, none⟩)] w fun e w' => e = .returned (.int .i64 now) ∧ w' = w := by
  have c0 : w.cell? ⟨g, 0, none⟩ = some (.int .i64 now) := by simp [World.cell?, H.top]
  clear H
  go_enter Try.func20, Try.ntmps20
  go_wp2
  go_ret
  exact ⟨rfl, rfl⟩
set_option maxHeartbeats 1000000 in
theorem version_any (k : ByteArray) (hk : k.size ≤ maxLen) (H : StoreAt w b g me mc n nc now A C) :
    Calls Try.prog 17 #[.pointer (some ⟨g, 0, none⟩), .string k] w fun e w' => e = .returned (.int .i64 (C k)) ∧ w' = w := by
  obtain ⟨N, hN, hC⟩ := H.cnts
  have c2 : w.cell? ⟨g, 2, none⟩ = some (.map (some mc)) := by simp [World.cell?, H.top]
  have hlook := (hN.lookup law9 Try.underlying60 (zeroI w) (key9 hk)).1
  have e : (N (nm k)).getD (.int .i64 0) = .int .i64 (C k) := by
    cases h : N (nm k) with
    | none => rw [hC.1 _ h]; rfl
    | some v => rw [hC.2 _ _ h]; rfl
  rw [e] at hlook
  clear hN hC H e
  go_enter Try.func17, Try.ntmps17
  go_wp2
  go_ret
  exact ⟨rfl, rfl⟩
end
end Go.Proofs.Ytmhdkjihhdljlaa.X
