/- Small words of the store's laws; their head. -/
import Derived.Test.YtmhdkjihhdljlaaStKeys
set_option linter.unusedVariables false
set_option linter.unusedSimpArgs false
namespace Go.Proofs.Ytmhdkjihhdljlaa.X
open Go.RowKit Go.Maps Go.ChangeMaps Go.MapKept Go.Proofs.Ytmhdkjihhdljlaa.Mv Go.Proofs.YtmhdkjihhdljlaaW.PrintWords Go.Proofs.YtmhdkjihhdljlaaW.PrintMore
/-- A store at g in w, made behind w0, in the blocks S; n bounds its entries, nc its counts. -/
def StoreSt (w0 w : World) (S : Nat → Prop) (g me mc n nc : Nat) (now : Int) (E : List Ent) (C : ByteArray → Int) : Prop :=
  ∃ n' nc' A, StoreAt w w0.heap.size g me mc n' nc' now A C ∧ ents A = E ∧ n' ≤ n ∧ nc' ≤ nc ∧ Below w0.heap.size w0 w ∧ ∀ i, S i ↔ SB g me mc A i
theorem below_kp {S : Nat → Prop} {w0 w w1 : World} (h : Below w0.heap.size w0 w) (hk : Kp S w w1) (hS : ∀ k, S k → w0.heap.size ≤ k) : Below w0.heap.size w0 w1 :=
  ⟨hk.os.trans h.os, hk.tape.trans h.tape, hk.output.trans h.output, Nat.le_trans h.size hk.size, fun i hi => (hk.block i (Nat.lt_of_lt_of_le hi h.size) (fun hs => by have := hS i hs; omega)).trans (h.block i hi)⟩
section
variable {w0 w w1 : World} {S T : Nat → Prop} {b g me mc n nc : Nat} {now : Int} {E : List Ent} {C : ByteArray → Int} {A : List (Nat × Ent)}
theorem StoreAt.sb (h : StoreAt w b g me mc n nc now A C) : ∀ i, SB g me mc A i → b ≤ i ∧ i < w.heap.size ∧ ∀ cs t, w.heap[i]? = some (.cells cs t (0, 0)) → t = 74 ∨ t = 62 := by
  have hl := h.lt
  obtain ⟨M, hM, _⟩ := h.ents
  obtain ⟨N, hN, _⟩ := h.cnts
  rintro i (rfl | rfl | rfl | ⟨p, hp, rfl⟩)
  · refine ⟨h.hg, hl.1, fun cs t e => ?_⟩
    rw [h.top] at e
    injection e with e
    injection e with _ e _
    exact .inr e.symm
  · exact ⟨h.hme, hl.2.1, fun cs t e => absurd e (MapV.noobj hM _ _ _)⟩
  · exact ⟨h.hmc, hl.2.2.1, fun cs t e => absurd e (MapV.noobj hN _ _ _)⟩
  · have hE := h.at_ p hp
    refine ⟨h.hA p hp, hE.lt, fun cs t e => ?_⟩
    obtain ⟨_, _, _, h1, _⟩ := hE
    rw [h1] at e
    injection e with e
    injection e with _ e _
    exact .inl e.symm
theorem StoreSt.below0 (h : StoreSt w0 w S g me mc n nc now E C) : Below w0.heap.size w0 w := by
  obtain ⟨_, _, _, _, _, _, _, h, _⟩ := h
  exact h
theorem StoreSt.in_ (h : StoreSt w0 w S g me mc n nc now E C) : ∀ i, S i → w0.heap.size ≤ i ∧ i < w.heap.size := by
  obtain ⟨n', nc', A, h1, h2, h3, h4, h5, h6⟩ := h
  intro i hi
  have := h1.sb i ((h6 i).1 hi)
  exact ⟨this.1, this.2.1⟩
theorem StoreSt.mono (h : StoreSt w0 w S g me mc n nc now E C) {m mc' : Nat} (hm : n ≤ m) (hc : nc ≤ mc') : StoreSt w0 w S g me mc m mc' now E C := by
  obtain ⟨n', nc', A, h1, h2, h3, h4, h5, h6⟩ := h
  exact ⟨n', nc', A, h1, h2, by omega, by omega, h5, h6⟩
/-- What turns other blocks, and no rows, leaves it. -/
theorem StoreSt.kp (h : StoreSt w0 w S g me mc n nc now E C) (hk : Kp T w w1) (hd : ∀ i, T i → ¬ S i) (h0 : ∀ i, T i → w0.heap.size ≤ i) (ht : ∀ i, T i → ∀ cs t, w.heap[i]? = some (.cells cs t (0, 0)) → t = 74 ∨ t = 62 ∨ t = 26) : StoreSt w0 w1 S g me mc n nc now E C := by
  obtain ⟨n', nc', A, h1, h2, h3, h4, h5, h6⟩ := h
  have hl := h1.lt
  obtain ⟨M, hM, hR⟩ := h1.ents
  obtain ⟨N, hN, hC⟩ := h1.cnts
  have hs : ∀ i, SB g me mc A i → w1.heap[i]? = w.heap[i]? := fun i hi => hk.block i (h1.sb i hi).2.1 (fun h => hd i h ((h6 i).2 hi))
  refine ⟨n', nc', A, { h1 with top := (hs g (.inl rfl)).trans h1.top, ents := ⟨M, hM.same (hs me (.inr (.inl rfl))), hR⟩, cnts := ⟨N, hN.same (hs mc (.inr (.inr (.inl rfl)))), hC⟩, at_ := fun p hp => (h1.at_ p hp).move (hs _ (.inr (.inr (.inr ⟨p, hp, rfl⟩)))) (fun k cs t hk1 e1 e2 e3 => hk.block k (pwlt hk1) fun hT => ?_) }, h2, h3, h4, below_kp h5 hk h0, h6⟩
  rcases ht k hT _ _ hk1 with e | e | e
  · exact e1 e
  · exact e2 e
  · exact e3 e
theorem StoreSt.below (h : StoreSt w0 w S g me mc n nc now E C) (hb : Below w.heap.size w w1) : StoreSt w0 w1 S g me mc n nc now E C :=
  h.kp (T := fun _ => False) (Kp.of_below hb) (fun _ h => h.elim) (fun _ h => h.elim) (fun _ h => h.elim)
theorem StoreSt.drawn (h : StoreSt w0 w S g me mc n nc now E C) (k : Nat) : StoreSt w0 (w.drewN k) S g me mc n nc now E C :=
  h.below ⟨rfl, rfl, rfl, Nat.le_refl _, fun _ _ => rfl⟩
theorem StoreSt.typ (h : StoreSt w0 w S g me mc n nc now E C) : ∀ i, S i → ∀ cs t, w.heap[i]? = some (.cells cs t (0, 0)) → t = 74 ∨ t = 62 ∨ t = 26 := by
  obtain ⟨n', nc', A, h1, h2, h3, h4, h5, h6⟩ := h
  intro i hi cs t e
  rcases (h1.sb i ((h6 i).1 hi)).2.2 cs t e with h | h
  · exact .inl h
  · exact .inr (.inl h)
/-- What a call of the store leaves: its blocks are the elder ones, or new ones. -/
structure Post (w0 w w' : World) (S : Nat → Prop) (g me mc n nc : Nat) (now : Int) (E : List Ent) (C : ByteArray → Int) (S' : Nat → Prop) : Prop where
  st : StoreSt w0 w' S' g me mc n nc now E C
  kp : Kp S w w'
  new : ∀ i, S' i → S i ∨ w.heap.size ≤ i
theorem Post.other {w0 w w' : World} {S S' T : Nat → Prop} {g me mc n nc g2 me2 mc2 n2 nc2 : Nat} {now now0 now2 : Int} {E E0 E2 : List Ent} {C C0 C2 : ByteArray → Int} {n0 nc0 : Nat} (h : Post w0 w w' S g me mc n nc now E C S') (h0 : StoreSt w0 w S g me mc n0 nc0 now0 E0 C0) (h2 : StoreSt w0 w T g2 me2 mc2 n2 nc2 now2 E2 C2) (hd : ∀ i, S i → ¬ T i) : StoreSt w0 w' T g2 me2 mc2 n2 nc2 now2 E2 C2 ∧ ∀ i, S' i → ¬ T i := by
  refine ⟨h2.kp h.kp hd (fun i hi => (h0.in_ i hi).1) h0.typ, fun i hi ht => ?_⟩
  rcases h.new i hi with hs | hs
  · exact hd i hs ht
  · have := (h2.in_ i ht).2
    omega
def valE : Option Ent → Vl
  | none => noneV
  | some e => e.v
theorem s_new (hB : Below w0.heap.size w0 w) : Calls Try.prog 10 #[] w fun e w' => ∃ g me mc S, e = .returned (.pointer (some ⟨g, 0, none⟩)) ∧ Aside0 (StoreSt w0 w' S g me mc 0 0 0 [] (fun _ => 0)) ∧ Aside0 (∀ i, S i → w.heap.size ≤ i) ∧ Aside0 (Below w.heap.size w w') := by
  refine (new_any w).mono ?_
  rintro e w' ⟨g, me, mc, rfl, h1, h2⟩
  have hs := h1.out
  have hb := hB.size
  refine ⟨g, me, mc, SB g me mc [], rfl, ⟨0, 0, [], { hs with hg := Nat.le_trans hb hs.hg, hme := Nat.le_trans hb hs.hme, hmc := Nat.le_trans hb hs.hmc, at_ := (fun p hp => by cases hp), hA := (fun p hp => by cases hp) }, rfl, Nat.le_refl _, Nat.le_refl _, below_kp (S := fun _ => False) hB (Kp.of_below h2.out) (fun _ h => h.elim), fun _ => Iff.rfl⟩, ⟨fun i hi => (hs.sb i hi).1⟩, h2⟩
theorem sb_let {k : ByteArray} : ∀ i, SB g me mc (letA k A) i → SB g me mc A i := by
  rintro i (h | h | h | ⟨p, hp, h⟩)
  · exact .inl h
  · exact .inr (.inl h)
  · exact .inr (.inr (.inl h))
  · exact .inr (.inr (.inr ⟨p, (List.mem_filter.1 hp).1, h⟩))
theorem sb_drop {k : ByteArray} : ∀ i, SB g me mc (dropA k A) i → SB g me mc A i := by
  rintro i (h | h | h | ⟨p, hp, h⟩)
  · exact .inl h
  · exact .inr (.inl h)
  · exact .inr (.inr (.inl h))
  · exact .inr (.inr (.inr ⟨p, (List.mem_filter.1 hp).1, h⟩))
theorem sb_fst {A' : List (Nat × Ent)} (h : A'.map (·.1) = A.map (·.1)) : ∀ i, SB g me mc A' i ↔ SB g me mc A i := by
  have : ∀ (A : List (Nat × Ent)) i, (∃ p ∈ A, i = p.1) ↔ i ∈ A.map (·.1) := fun A i => by rw [List.mem_map]; exact ⟨fun ⟨p, h1, h2⟩ => ⟨p, h1, h2.symm⟩, fun ⟨p, h1, h2⟩ => ⟨p, h1, h2.symm⟩⟩
  intro i
  unfold SB
  rw [this, this, h]
theorem s_get (k : ByteArray) (hk : k.size ≤ maxLen) (H : StoreSt w0 w S g me mc n nc now E C) :
    Calls Try.prog 16 #[.pointer (some ⟨g, 0, none⟩), .string k] w fun e w' => ∃ v2 v3 v4 S', e = .returned (.agg #[.int .u8 (valE (fndE k (letE k E))).kind, .string (valE (fndE k (letE k E))).s, v2, v3, v4]) ∧ Aside0 (RowsAt w' w.heap.size (valE (fndE k (letE k E))) v2 v3 v4) ∧ Aside0 (Post w0 w w' S g me mc n nc now (letE k E) C S') := by
  obtain ⟨n', nc', A, h1, rfl, h3, h4, h5, h6⟩ := H
  refine (get_any k hk h1).mono ?_
  rintro e w' ⟨v2, v3, v4, rfl, hr, hs, hk⟩
  have e1 : valO (fnd k (letA k A)) = valE (fndE k (letE k (ents A))) := by
    rw [← ents_let, ← ents_fnd]
    cases fnd k (letA k A) <;> rfl
  rw [e1] at hr ⊢
  exact ⟨v2, v3, v4, SB g me mc (letA k A), rfl, hr, ⟨⟨n', nc', _, hs.out, ents_let k A, h3, h4, below_kp h5 hk.out fun i hi => by rw [hi]; exact h1.hme, fun _ => Iff.rfl⟩, hk.out.mono fun i hi => (h6 i).2 (by rw [hi]; exact .inr (.inl rfl)), fun i hi => .inl ((h6 i).2 (sb_let i hi))⟩⟩
def dueE : Option Ent → Int
  | none => 0
  | some e => if 0 < e.due then e.due else 0
def onE : Option Ent → Bool
  | none => false
  | some e => decide (0 < e.due)
theorem s_due (k : ByteArray) (hk : k.size ≤ maxLen) (H : StoreSt w0 w S g me mc n nc now E C) :
    Calls Try.prog 14 #[.pointer (some ⟨g, 0, none⟩), .string k] w fun e w' => e = .returned (.tuple #[.int .i64 (dueE (fndE k (letE k E))), .bool (onE (fndE k (letE k E)))]) ∧ ∃ S', Aside0 (Post w0 w w' S g me mc n nc now (letE k E) C S') := by
  obtain ⟨n', nc', A, h1, rfl, h3, h4, h5, h6⟩ := H
  refine (due_any k hk h1).mono ?_
  rintro e w' ⟨rfl, hs, hk⟩
  have e1 : dueO (fnd k (letA k A)) = dueE (fndE k (letE k (ents A))) := by
    rw [← ents_let, ← ents_fnd]
    cases fnd k (letA k A) <;> rfl
  have e2 : onO (fnd k (letA k A)) = onE (fndE k (letE k (ents A))) := by
    rw [← ents_let, ← ents_fnd]
    cases fnd k (letA k A) <;> rfl
  rw [e1, e2]
  exact ⟨rfl, SB g me mc (letA k A), ⟨⟨n', nc', _, hs.out, ents_let k A, h3, h4, below_kp h5 hk.out fun i hi => by rw [hi]; exact h1.hme, fun _ => Iff.rfl⟩, hk.out.mono fun i hi => (h6 i).2 (by rw [hi]; exact .inr (.inl rfl)), fun i hi => .inl ((h6 i).2 (sb_let i hi))⟩⟩
theorem s_now (H : StoreSt w0 w S g me mc n nc now E C) :
    Calls Try.prog 20 #[.pointer (some ⟨g, 0, none⟩)] w fun e w' => e = .returned (.int .i64 now) ∧ w' = w := by
  obtain ⟨n', nc', A, h1, rfl, h3, h4, h5, h6⟩ := H
  exact now_any h1
theorem s_version (k : ByteArray) (hk : k.size ≤ maxLen) (H : StoreSt w0 w S g me mc n nc now E C) :
    Calls Try.prog 17 #[.pointer (some ⟨g, 0, none⟩), .string k] w fun e w' => e = .returned (.int .i64 (C k)) ∧ w' = w := by
  obtain ⟨n', nc', A, h1, rfl, h3, h4, h5, h6⟩ := H
  exact version_any k hk h1
theorem s_held (H : StoreSt w0 w S g me mc n nc now E C) :
    Calls Try.prog 33 #[.pointer (some ⟨g, 0, none⟩)] w fun e w' => e = .returned (.int .i64 E.length) ∧ w' = w := by
  obtain ⟨n', nc', A, h1, rfl, h3, h4, h5, h6⟩ := H
  have : (ents A).length = A.length := List.length_map _
  rw [this]
  exact held_any h1
theorem sb_purge : ∀ i, SB g me mc (purgeA (fun _ => false) A) i → SB g me mc A i := by
  rintro i (h | h | h | ⟨p, hp, h⟩)
  · exact .inl h
  · exact .inr (.inl h)
  · exact .inr (.inr (.inl h))
  · exact .inr (.inr (.inr ⟨p, (List.mem_filter.1 hp).1, h⟩))
theorem s_purge (H : StoreSt w0 w S g me mc n nc now E C) :
    Calls Try.prog 18 #[.pointer (some ⟨g, 0, none⟩)] w fun e w' => e = .returned (.int .i64 (wrap64 ((E.length : Int) - ((purgeE E).length : Int)))) ∧ ∃ S', Aside0 (Post w0 w w' S g me mc n nc now (purgeE E) C S') := by
  obtain ⟨n', nc', A, h1, rfl, h3, h4, h5, h6⟩ := H
  refine (purge_any h1).mono ?_
  rintro e w' ⟨rfl, hs, hk⟩
  have l1 : (ents A).length = A.length := List.length_map _
  have l2 : (purgeE (ents A)).length = (purgeA (fun _ => false) A).length := by rw [← ents_purge]; exact List.length_map _
  rw [l1, l2]
  exact ⟨rfl, SB g me mc (purgeA (fun _ => false) A), ⟨⟨n', nc', _, hs.out, ents_purge A, h3, h4, below_kp h5 hk.out fun i hi => by rw [hi]; exact h1.hme, fun _ => Iff.rfl⟩, hk.out.mono fun i hi => (h6 i).2 (by rw [hi]; exact .inr (.inl rfl)), fun i hi => .inl ((h6 i).2 (sb_purge i hi))⟩⟩
def keysE (E : List Ent) : List ByteArray := (E.filter fun e => !e.past).map (·.key)
theorem s_keys (H : StoreSt w0 w S g me mc n nc now E C) (hN : n ≤ 1000000) :
    Calls Try.prog 21 #[.pointer (some ⟨g, 0, none⟩)] w fun e w' => ∃ B k, e = .returned (.slice B (keysE E).length k) ∧ (keysE E).length ≤ k ∧ Aside0 (Kd.C Kd.string w' B (keysE E).length (keysE E)) ∧ Aside0 (StoreSt w0 w' S g me mc n nc now E C) ∧ Aside0 (Below w.heap.size w w') := by
  have H0 := H
  obtain ⟨n', nc', A, h1, rfl, h3, h4, h5, h6⟩ := H
  refine (keys_any h1 (by omega)).mono ?_
  rintro e w' ⟨B, k, rfl, hk, hc, hb⟩
  have : keysE (ents A) = keysA A := by unfold keysE keysA ents; rw [List.filter_map, List.map_map]; rfl
  rw [this]
  exact ⟨B, k, rfl, hk, hc, ⟨H0.below hb.out⟩, hb⟩
def putE (k : ByteArray) (x : Vl) (E : List Ent) : List Ent :=
  match fndE k (letE k E) with
  | none => if x.kind = 0 then letE k E else insE ⟨k, x, 0, false⟩ (letE k E)
  | some p => if x.kind = 0 then dropE k (letE k E) else updE k { p with v := x } (letE k E)
def putC (k : ByteArray) (x : Vl) (E : List Ent) (C : ByteArray → Int) : ByteArray → Int :=
  if x.kind = 0 ∧ fndE k (letE k E) = none then C else bump k C
theorem s_putn (k : ByteArray) (hk : k.size ≤ maxLen) (hnc : nc < maxLen) (x : Vl) (hx : x.kind = 0) (s : ByteArray) (A2 A3 A4 : Option Addr) (n2 n3 n4 c2 c3 c4 : Nat) (H : StoreSt w0 w S g me mc n nc now E C) :
    Calls Try.prog 13 #[.pointer (some ⟨g, 0, none⟩), .string k, .agg #[.int .u8 0, .string s, .slice A2 n2 c2, .slice A3 n3 c3, .slice A4 n4 c4]] w fun e w' => e = .returned (.tuple #[]) ∧ ∃ S', Aside0 (Post w0 w w' S g me mc (n + 1) (nc + 1) now (putE k x E) (putC k x E C) S') := by
  obtain ⟨n', nc', A, h1, rfl, h3, h4, h5, h6⟩ := H
  refine (put_none k hk (by omega) s A2 A3 A4 n2 n3 n4 c2 c3 c4 h1).mono ?_
  rintro e w' ⟨rfl, hs, hk⟩
  have hf : fndE k (letE k (ents A)) = (fnd k (letA k A)).map (·.2) := by rw [← ents_let, ← ents_fnd]
  have hb := below_kp h5 hk.out (fun i hi => by rcases hi with rfl | rfl; exact h1.hme; exact h1.hmc)
  have hkk : Kp S w w' := hk.out.mono fun i hi => (h6 i).2 (by rcases hi with rfl | rfl; exact .inr (.inl rfl); exact .inr (.inr (.inl rfl)))
  have hs := hs.out
  refine ⟨rfl, ?_⟩
  cases hh : fnd k (letA k A) with
  | none =>
    rw [hh] at hs hf
    have e1 : putE k x (ents A) = letE k (ents A) := by unfold putE; rw [hf]; simp [hx]
    have e2 : putC k x (ents A) C = C := by unfold putC; rw [hf]; simp [hx]
    rw [e1, e2]
    exact ⟨SB g me mc (letA k A), ⟨⟨n', nc', _, hs, ents_let k A, by omega, by omega, hb, fun _ => Iff.rfl⟩, hkk, fun i hi => .inl ((h6 i).2 (sb_let i hi))⟩⟩
  | some p =>
    rw [hh] at hs hf
    have e1 : putE k x (ents A) = dropE k (letE k (ents A)) := by unfold putE; rw [hf]; simp [hx]
    have e2 : putC k x (ents A) C = bump k C := by unfold putC; rw [hf]; simp
    rw [e1, e2]
    exact ⟨SB g me mc (dropA k (letA k A)), ⟨⟨n', nc' + 1, _, hs, by rw [ents_drop, ents_let], by omega, by omega, hb, fun _ => Iff.rfl⟩, hkk, fun i hi => .inl ((h6 i).2 (sb_let i (sb_drop i hi)))⟩⟩
theorem s_put (k : ByteArray) (hk : k.size ≤ maxLen) (hn : n < maxLen) (hnc : nc < maxLen) (x : Vl) (hx : VOk x) (hx0 : x.kind ≠ 0) (A2 A3 A4 : Option Addr) (c2 c3 c4 : Nat) (l2 : x.l.length ≤ c2) (l3 : x.h.length ≤ c3) (l4 : x.z.length ≤ c4) (C2 : Kd.C Kd.string w A2 x.l.length x.l) (C3 : Kd.C kPair w A3 x.h.length x.h) (C4 : Kd.C kMark w A4 x.z.length x.z) (H : StoreSt w0 w S g me mc n nc now E C) :
    Calls Try.prog 13 #[.pointer (some ⟨g, 0, none⟩), .string k, .agg #[.int .u8 x.kind, .string x.s, .slice A2 x.l.length c2, .slice A3 x.h.length c3, .slice A4 x.z.length c4]] w fun e w' => e = .returned (.tuple #[]) ∧ ∃ S', Aside0 (Post w0 w w' S g me mc (n + 1) (nc + 1) now (putE k x E) (putC k x E C) S') := by
  obtain ⟨n', nc', A, h1, rfl, h3, h4, h5, h6⟩ := H
  have hf : fndE k (letE k (ents A)) = (fnd k (letA k A)).map (·.2) := by rw [← ents_let, ← ents_fnd]
  cases hh : fnd k (letA k A) with
  | none =>
    rw [hh] at hf
    refine (put_new k hk (by omega) (by omega) x hx hx0 A2 A3 A4 c2 c3 c4 l2 l3 l4 C2 C3 C4 h1 hh).mono ?_
    rintro e w' ⟨rfl, q, hq, hs, hk⟩
    have hb := below_kp h5 hk.out (fun i hi => by rcases hi with rfl | rfl; exact h1.hme; exact h1.hmc)
    have hkk : Kp S w w' := hk.out.mono fun i hi => (h6 i).2 (by rcases hi with rfl | rfl; exact .inr (.inl rfl); exact .inr (.inr (.inl rfl)))
    have e1 : putE k x (ents A) = insE ⟨k, x, 0, false⟩ (letE k (ents A)) := by unfold putE; rw [hf]; simp [hx0]
    have e2 : putC k x (ents A) C = bump k C := by unfold putC; rw [hf]; simp [hx0]
    rw [e1, e2]
    refine ⟨rfl, SB g me mc (insA (q, ⟨k, x, 0, false⟩) (letA k A)), ⟨⟨n' + 1, nc' + 1, _, hs.out, by rw [ents_ins, ents_let], by omega, by omega, hb, fun _ => Iff.rfl⟩, hkk, fun i hi => ?_⟩⟩
    rcases hi with h | h | h | ⟨p, hp, h⟩
    · exact .inl ((h6 i).2 (.inl h))
    · exact .inl ((h6 i).2 (.inr (.inl h)))
    · exact .inl ((h6 i).2 (.inr (.inr (.inl h))))
    · rcases List.mem_cons.1 ((insA_perm _ _).mem_iff.1 hp) with rfl | hp
      · exact .inr (by rw [h]; exact hq)
      · exact .inl ((h6 i).2 (.inr (.inr (.inr ⟨p, (List.mem_filter.1 hp).1, h⟩))))
  | some p =>
    rw [hh] at hf
    refine (put_upd k hk (by omega) (by omega) x hx hx0 A2 A3 A4 c2 c3 c4 l2 l3 l4 C2 C3 C4 h1 p hh).mono ?_
    rintro e w' ⟨rfl, hs, hk⟩
    have hpA : p ∈ A := (List.mem_filter.1 (fnd_some hh).1).1
    have hb := below_kp h5 hk.out (fun i hi => by rcases hi with rfl | rfl | rfl; exact h1.hme; exact h1.hmc; exact h1.hA p hpA)
    have hkk : Kp S w w' := hk.out.mono fun i hi => (h6 i).2 (by rcases hi with rfl | rfl | rfl; exact .inr (.inl rfl); exact .inr (.inr (.inl rfl)); exact .inr (.inr (.inr ⟨p, hpA, rfl⟩)))
    have e1 : putE k x (ents A) = updE k { p.2 with v := x } (letE k (ents A)) := by unfold putE; rw [hf]; simp [hx0]
    have e2 : putC k x (ents A) C = bump k C := by unfold putC; rw [hf]; simp
    rw [e1, e2]
    exact ⟨rfl, SB g me mc (updA k { p.2 with v := x } (letA k A)), ⟨⟨n', nc' + 1, _, hs.out, by rw [ents_upd, ents_let], by omega, by omega, hb, fun _ => Iff.rfl⟩, hkk, fun i hi => .inl ((h6 i).2 (sb_let i ((sb_fst (updA_fst _ _ _) i).1 hi)))⟩⟩
def setE (k : ByteArray) (now at_ : Int) (on : Bool) (E : List Ent) : List Ent :=
  match fndE k (letE k E) with
  | none => letE k E
  | some x => if on then (if at_ ≤ now then dropE k (letE k E) else updE k { x with due := at_ } (letE k E)) else updE k { x with due := 0 } (letE k E)
def setC (k : ByteArray) (E : List Ent) (C : ByteArray → Int) : ByteArray → Int :=
  if fndE k (letE k E) = none then C else bump k C
theorem s_set (k : ByteArray) (hk : k.size ≤ maxLen) (hnc : nc < maxLen) (at_ : Int) (on : Bool) (H : StoreSt w0 w S g me mc n nc now E C) :
    Calls Try.prog 12 #[.pointer (some ⟨g, 0, none⟩), .string k, .int .i64 at_, .bool on] w fun e w' => e = .returned (.bool (fndE k (letE k E)).isSome) ∧ ∃ S', Aside0 (Post w0 w w' S g me mc n (nc + 1) now (setE k now at_ on E) (setC k E C) S') := by
  obtain ⟨n', nc', A, h1, rfl, h3, h4, h5, h6⟩ := H
  have hf : fndE k (letE k (ents A)) = (fnd k (letA k A)).map (·.2) := by rw [← ents_let, ← ents_fnd]
  cases hh : fnd k (letA k A) with
  | none =>
    rw [hh] at hf
    refine (set_none k hk at_ on h1 hh).mono ?_
    rintro e w' ⟨rfl, hs, hk⟩
    have e1 : setE k now at_ on (ents A) = letE k (ents A) := by unfold setE; rw [hf]; rfl
    have e2 : setC k (ents A) C = C := by unfold setC; rw [hf]; rfl
    rw [e1, e2, hf]
    exact ⟨rfl, SB g me mc (letA k A), ⟨⟨n', nc', _, hs.out, ents_let k A, h3, by omega, below_kp h5 hk.out fun i hi => by rw [hi]; exact h1.hme, fun _ => Iff.rfl⟩, hk.out.mono fun i hi => (h6 i).2 (by rw [hi]; exact .inr (.inl rfl)), fun i hi => .inl ((h6 i).2 (sb_let i hi))⟩⟩
  | some p =>
    rw [hh] at hf
    refine (set_some k hk (by omega) at_ on h1 p hh).mono ?_
    rintro e w' ⟨rfl, hs, hk⟩
    have hpA : p ∈ A := (List.mem_filter.1 (fnd_some hh).1).1
    have hb := below_kp h5 hk.out (fun i hi => by rcases hi with rfl | rfl | rfl; exact h1.hme; exact h1.hmc; exact h1.hA p hpA)
    have hkk : Kp S w w' := hk.out.mono fun i hi => (h6 i).2 (by rcases hi with rfl | rfl | rfl; exact .inr (.inl rfl); exact .inr (.inr (.inl rfl)); exact .inr (.inr (.inr ⟨p, hpA, rfl⟩)))
    have e1 : setE k now at_ on (ents A) = ents (setA k p.2 now at_ on (letA k A)) := by
      unfold setE setA
      rw [hf]
      show (if on = true then _ else _) = _
      split
      · split
        · rw [ents_drop, ents_let]
        · rw [ents_upd, ents_let]
      · rw [ents_upd, ents_let]
    have e2 : setC k (ents A) C = bump k C := by unfold setC; rw [hf]; simp
    have e3 : ∀ i, SB g me mc (setA k p.2 now at_ on (letA k A)) i → SB g me mc A i := by
      intro i hi
      unfold setA at hi
      split at hi
      · split at hi
        · exact sb_let i (sb_drop i hi)
        · exact sb_let i ((sb_fst (updA_fst _ _ _) i).1 hi)
      · exact sb_let i ((sb_fst (updA_fst _ _ _) i).1 hi)
    rw [e1, e2, hf]
    exact ⟨rfl, SB g me mc (setA k p.2 now at_ on (letA k A)), ⟨⟨n', nc' + 1, _, hs.out, rfl, by omega, by omega, hb, fun _ => Iff.rfl⟩, hkk, fun i hi => .inl ((h6 i).2 (e3 i hi))⟩⟩
def tickCE (now : Int) (E : List Ent) (C : ByteArray → Int) : ByteArray → Int := fun s =>
  match fndE s E with
  | none => C s
  | some p => if dueNow now p then wrap64 (C s + 1) else C s
theorem time_eq {now d : Int} (h0 : 0 ≤ now) (h1 : now ≤ lst) : mn (wrap64 (now + mn (mx d 0) 1099511627776)) 1099511627776 = timeU now d := by
  have e1 : mx d 0 = max d 0 := by unfold mx; split <;> omega
  have e2 : ∀ a b : Int, mn a b = min a b := by intro a b; unfold mn; split <;> omega
  rw [e1, e2, e2]
  unfold timeU
  unfold lst at *
  have : wrap64 (now + min (max d 0) 1099511627776) = now + min (max d 0) 1099511627776 := by unfold wrap64; omega
  rw [this]
theorem timeU_bd {now d : Int} (h0 : 0 ≤ now) : 0 ≤ timeU now d ∧ timeU now d ≤ lst := by
  unfold timeU lst; omega
theorem s_tick (d : Int) (hn : nc + n < maxLen) (H : StoreSt w0 w S g me mc n nc now E C) (h0 : 0 ≤ now) (h1 : now ≤ lst) :
    Calls Try.prog 15 #[.pointer (some ⟨g, 0, none⟩), .int .i64 d] w fun e w' => e = .returned (.tuple #[]) ∧ ∃ S', Aside0 (Post w0 w w' S g me mc n (nc + n) (timeU now d) (tickE (timeU now d) E) (tickCE (timeU now d) E C) S') := by
  obtain ⟨n', nc', A, hA, rfl, h3, h4, h5, h6⟩ := H
  refine (tick_any d (by omega) hA h0 h1).mono ?_
  rw [time_eq h0 h1]
  rintro e w' ⟨rfl, nc'', hnc, hs, hk⟩
  have e2 : tickCE (timeU now d) (ents A) C = tickC (timeU now d) (fun _ => false) A C := by
    funext s
    unfold tickCE tickC
    rw [← ents_fnd]
    cases fnd s A <;> rfl
  rw [e2]
  exact ⟨rfl, SB g me mc (tickA (timeU now d) (fun _ => false) A), ⟨⟨n', nc'', _, hs.out, ents_tick _ A, by omega, by omega, below_kp h5 hk.out fun i hi => (hA.sb i hi).1, fun _ => Iff.rfl⟩, hk.out.mono fun i hi => (h6 i).2 hi, fun i hi => .inl ((h6 i).2 ((sb_fst (by unfold tickA; rw [List.map_map]; exact List.map_congr_left fun p _ => by simp only [Function.comp]; split <;> rfl) i).1 hi))⟩⟩
end
end Go.Proofs.Ytmhdkjihhdljlaa.X
namespace Go.Proofs.Ytmhdkjihhdljlaa.X
open Go.RowKit Go.Maps Go.ChangeMaps Go.MapKept Go.Proofs.Ytmhdkjihhdljlaa.Mv Go.Proofs.YtmhdkjihhdljlaaW.PrintWords Go.Proofs.YtmhdkjihhdljlaaW.PrintMore
abbrev ka : ByteArray := ⟨#[97]⟩
abbrev kb : ByteArray := ⟨#[98]⟩
abbrev kc : ByteArray := ⟨#[99]⟩
theorem kab : (ka = kb) = False := by simp
def txtV (s : ByteArray) : Vl := ⟨1, s, [], [], []⟩
theorem fieldV0 (a b c d e : Value) (w : World) : (Instr.field 26 (.agg #[a, b, c, d, e]) 0).run Try.prog w = .ok a w := by kernel_rfl
theorem fieldV1 (a b c d e : Value) (w : World) : (Instr.field 26 (.agg #[a, b, c, d, e]) 1).run Try.prog w = .ok b w := by kernel_rfl
attribute [local go_sem] fieldV0 fieldV1
theorem named_alloc (w : World) (cs : Array Value) (t : TypeId) : ∃ w1, w.alloc (.cells cs t) = w1 ∧ Aside0 (Below w.heap.size w w1) ∧ Aside0 (w1.heap[w.heap.size]? = some (.cells cs t (0, 0))) :=
  ⟨_, rfl, ⟨(Below.refl _ _).alloc (Nat.le_refl _) _⟩, ⟨by have := heap_alloc_new w (.cells cs t); simpa using this⟩⟩
section
variable {w0 w w1 : World} {S T : Nat → Prop} {b g me mc n nc : Nat} {now : Int} {E : List Ent} {C : ByteArray → Int} {A : List (Nat × Ent)}
theorem t_put (k : ByteArray) (hk : k.size ≤ maxLen) (hn : n < maxLen) (hnc : nc < maxLen) (x : Vl) (hx : VOk x) (hx0 : x.kind ≠ 0) (E' : List Ent) (hE : putE k x E = E') (C' : ByteArray → Int) (hC : putC k x E C = C') (A2 A3 A4 : Option Addr) (n2 n3 n4 c2 c3 c4 : Nat) (e2 : x.l.length = n2) (e3 : x.h.length = n3) (e4 : x.z.length = n4) (l2 : n2 ≤ c2) (l3 : n3 ≤ c3) (l4 : n4 ≤ c4) (C2 : Kd.C Kd.string w A2 x.l.length x.l) (C3 : Kd.C kPair w A3 x.h.length x.h) (C4 : Kd.C kMark w A4 x.z.length x.z) (H : StoreSt w0 w S g me mc n nc now E C) :
    Calls Try.prog 13 #[.pointer (some ⟨g, 0, none⟩), .string k, .agg #[.int .u8 x.kind, .string x.s, .slice A2 n2 c2, .slice A3 n3 c3, .slice A4 n4 c4]] w fun e w' => e = .returned (.tuple #[]) ∧ ∃ S', Aside0 (Post w0 w w' S g me mc (n + 1) (nc + 1) now E' C' S') := by
  subst hE hC e2 e3 e4
  exact s_put k hk hn hnc x hx hx0 A2 A3 A4 c2 c3 c4 l2 l3 l4 C2 C3 C4 H
theorem t_txt (k : ByteArray) (hk : k.size ≤ maxLen) (hn : n < maxLen) (hnc : nc < maxLen) (s : ByteArray) (E' : List Ent) (hE : putE k (txtV s) E = E') (C' : ByteArray → Int) (hC : putC k (txtV s) E C = C') (H : StoreSt w0 w S g me mc n nc now E C) :
    Calls Try.prog 13 #[.pointer (some ⟨g, 0, none⟩), .string k, .agg #[.int .u8 1, .string s, .slice none 0 0, .slice none 0 0, .slice none 0 0]] w fun e w' => e = .returned (.tuple #[]) ∧ ∃ S', Aside0 (Post w0 w w' S g me mc (n + 1) (nc + 1) now E' C' S') :=
  t_put k hk hn hnc (txtV s) ⟨by simp [txtV], by simp [txtV], by simp [txtV]⟩ (by simp [txtV]) E' hE C' hC none none none 0 0 0 0 0 0 rfl rfl rfl (by simp) (by simp) (by simp) (Kd.C_nil _ _) (Kd.C_nil _ _) (Kd.C_nil _ _) H
theorem t_putn (k : ByteArray) (hk : k.size ≤ maxLen) (hnc : nc < maxLen) (x : Vl) (hx : x.kind = 0) (E' : List Ent) (hE : putE k x E = E') (C' : ByteArray → Int) (hC : putC k x E C = C') (s : ByteArray) (A2 A3 A4 : Option Addr) (n2 n3 n4 c2 c3 c4 : Nat) (H : StoreSt w0 w S g me mc n nc now E C) :
    Calls Try.prog 13 #[.pointer (some ⟨g, 0, none⟩), .string k, .agg #[.int .u8 0, .string s, .slice A2 n2 c2, .slice A3 n3 c3, .slice A4 n4 c4]] w fun e w' => e = .returned (.tuple #[]) ∧ ∃ S', Aside0 (Post w0 w w' S g me mc (n + 1) (nc + 1) now E' C' S') := by
  subst hE hC
  exact s_putn k hk hnc x hx s A2 A3 A4 n2 n3 n4 c2 c3 c4 H
theorem t_set (k : ByteArray) (hk : k.size ≤ maxLen) (hnc : nc < maxLen) (at_ : Int) (on : Bool) (r : Bool) (hr : (fndE k (letE k E)).isSome = r) (E' : List Ent) (hE : setE k now at_ on E = E') (C' : ByteArray → Int) (hC : setC k E C = C') (H : StoreSt w0 w S g me mc n nc now E C) :
    Calls Try.prog 12 #[.pointer (some ⟨g, 0, none⟩), .string k, .int .i64 at_, .bool on] w fun e w' => e = .returned (.bool r) ∧ ∃ S', Aside0 (Post w0 w w' S g me mc n (nc + 1) now E' C' S') := by
  subst hE hC hr
  exact s_set k hk hnc at_ on H
theorem t_tick (d : Int) (hn : nc + n < maxLen) (now' : Int) (ht : timeU now d = now') (E' : List Ent) (hE : tickE now' E = E') (C' : ByteArray → Int) (hC : tickCE now' E C = C') (H : StoreSt w0 w S g me mc n nc now E C) (h0 : 0 ≤ now) (h1 : now ≤ lst) :
    Calls Try.prog 15 #[.pointer (some ⟨g, 0, none⟩), .int .i64 d] w fun e w' => e = .returned (.tuple #[]) ∧ ∃ S', Aside0 (Post w0 w w' S g me mc n (nc + n) now' E' C' S') := by
  subst ht hE hC
  exact s_tick d hn H h0 h1
theorem t_get (k : ByteArray) (hk : k.size ≤ maxLen) (x : Vl) (hx : valE (fndE k (letE k E)) = x) (E' : List Ent) (hE : letE k E = E') (H : StoreSt w0 w S g me mc n nc now E C) :
    Calls Try.prog 16 #[.pointer (some ⟨g, 0, none⟩), .string k] w fun e w' => ∃ A2 A3 A4 c2 c3 c4 S', e = .returned (.agg #[.int .u8 x.kind, .string x.s, .slice A2 x.l.length c2, .slice A3 x.h.length c3, .slice A4 x.z.length c4]) ∧ Aside0 (x.l.length ≤ c2 ∧ x.h.length ≤ c3 ∧ x.z.length ≤ c4) ∧ Aside0 (Kd.C Kd.string w' A2 x.l.length x.l ∧ Kd.C kPair w' A3 x.h.length x.h ∧ Kd.C kMark w' A4 x.z.length x.z) ∧ Aside0 (Post w0 w w' S g me mc n nc now E' C S') := by
  subst hE hx
  refine (s_get k hk H).mono ?_
  rintro e w' ⟨v2, v3, v4, S', rfl, hr, hp⟩
  obtain ⟨A2, c2, A3, c3, A4, c4, rfl, rfl, rfl, l2, l3, l4, C2, C3, C4⟩ := hr.out.parts
  exact ⟨A2, A3, A4, c2, c3, c4, S', rfl, ⟨l2, l3, l4⟩, ⟨C2, C3, C4⟩, hp⟩
theorem t_due (k : ByteArray) (hk : k.size ≤ maxLen) (d : Int) (hd : dueE (fndE k (letE k E)) = d) (o : Bool) (ho : onE (fndE k (letE k E)) = o) (E' : List Ent) (hE : letE k E = E') (H : StoreSt w0 w S g me mc n nc now E C) :
    Calls Try.prog 14 #[.pointer (some ⟨g, 0, none⟩), .string k] w fun e w' => e = .returned (.tuple #[.int .i64 d, .bool o]) ∧ ∃ S', Aside0 (Post w0 w w' S g me mc n nc now E' C S') := by
  subst hE hd ho
  exact s_due k hk H
theorem t_keys (l : List ByteArray) (hl : keysE E = l) (q : Nat) (hq : l.length = q) (hN : n ≤ 1000000) (H : StoreSt w0 w S g me mc n nc now E C) :
    Calls Try.prog 21 #[.pointer (some ⟨g, 0, none⟩)] w fun e w' => ∃ B k, e = .returned (.slice B q k) ∧ Aside0 (q ≤ k) ∧ Aside0 (Kd.C Kd.string w' B l.length l) ∧ Aside0 (StoreSt w0 w' S g me mc n nc now E C) ∧ Aside0 (Below w.heap.size w w') := by
  subst hl hq
  refine (s_keys H hN).mono ?_
  rintro e w' ⟨B, k, rfl, hk, hc, hs, hb⟩
  exact ⟨B, k, rfl, ⟨hk⟩, hc, hs, hb⟩
theorem t_purge (E' : List Ent) (hE : purgeE E = E') (r : Int) (hr : (E.length : Int) - (E'.length : Int) = r) (hl : E.length ≤ 1000000) (H : StoreSt w0 w S g me mc n nc now E C) :
    Calls Try.prog 18 #[.pointer (some ⟨g, 0, none⟩)] w fun e w' => e = .returned (.int .i64 r) ∧ ∃ S', Aside0 (Post w0 w w' S g me mc n nc now E' C S') := by
  subst hE hr
  refine (s_purge H).mono ?_
  rintro e w' ⟨rfl, h⟩
  have : (purgeE E).length ≤ E.length := List.length_filter_le _ _
  have : wrap64 ((E.length : Int) - ((purgeE E).length : Int)) = (E.length : Int) - ((purgeE E).length : Int) := by unfold wrap64; omega
  rw [this]
  exact ⟨rfl, h⟩
end
set_option maxHeartbeats 1000000 in
set_option maxRecDepth 100000 in
theorem shown_true (w : World) : Calls Try.prog 9 #[] w fun e w' => e = .returned (.bool true) ∧ Aside0 (Below w.heap.size w w') := by
  go_enter Try.func9, Try.ntmps9
  go_wp2_with fail
  refine (s_new (Below.refl _ _)).mono ?_
  rintro e w1 ⟨g, me, mc, S1, rfl, H1, _, _⟩
  go_wp2_with fail
  refine (t_txt ka (by decide) (by decide) (by decide) ⟨#[120]⟩ [⟨ka, txtV ⟨#[120]⟩, 0, false⟩] (by simp [putE, letE, fndE, insE, txtV]) _ rfl H1.out).mono ?_
  rintro e w2 ⟨rfl, S2, H2⟩
  go_wp2_with fail
  refine (t_set ka (by decide) (by decide) 5 true true (by simp [letE, fndE]) [⟨ka, txtV ⟨#[120]⟩, 5, false⟩] (by simp [setE, letE, fndE, updE]) _ rfl H2.out.st).mono ?_
  rintro e w3 ⟨rfl, S3, H3⟩
  go_wp2_with fail
  refine (t_tick 4 (by decide) 4 (by decide) [⟨ka, txtV ⟨#[120]⟩, 5, false⟩] (by simp [tickE, tick1, dueNow]) _ rfl H3.out.st (by decide) (by decide)).mono ?_
  rintro e w4 ⟨rfl, S4, H4⟩
  go_wp2_with fail
  refine (t_get ka (by decide) (txtV ⟨#[120]⟩) (by simp [letE, fndE, valE]) [⟨ka, txtV ⟨#[120]⟩, 5, false⟩] (by simp [letE]) H4.out.st).mono ?_
  rintro e w5 ⟨A2, A3, A4, c2, c3, c4, S5, rfl, _, _, H5⟩
  simp only [txtV]
  go_wp2_with fail
  obtain ⟨w6, hw6, HB6, HC6⟩ := named_alloc w5 #[.int .u8 1, .string ⟨#[120]⟩, .slice A2 0 c2, .slice A3 0 c3, .slice A4 0 c4] 26
  rw [hw6]
  have HL := Aside0.mk (H5.out.st.in_)
  have H6 := Aside0.mk (H5.out.st.below HB6.out)
  obtain ⟨q, hq⟩ : ∃ q, w5.heap.size = q := ⟨_, rfl⟩
  have HN := Aside0.mk (show ¬ S5 q from fun h => by have := HL.out q h; omega)
  rw [hq] at HC6 ⊢
  clear hw6 hq
  refine (t_tick 1 (by decide) 5 (by decide) [⟨ka, txtV ⟨#[120]⟩, 5, true⟩] (by simp [tickE, tick1, dueNow]) _ rfl H6.out (by decide) (by decide)).mono ?_
  rintro e w7 ⟨rfl, S7, H7⟩
  have c0 : w7.cell? ⟨q, 1, none⟩ = some (.string ⟨#[120]⟩) := H7.out.kp.cell (by simp [World.cell?, HC6.out]) HN.out
  go_wp2_with fail
  refine (s_held H7.out.st).mono ?_
  rintro e w8 ⟨rfl, rfl⟩
  go_wp2_with fail
  refine (t_purge [] (by simp [purgeE]) 1 (by simp) (by simp) H7.out.st).mono ?_
  rintro e w9 ⟨rfl, S9, H9⟩
  go_wp2_with fail
  refine (s_held H9.out.st).mono ?_
  rintro e w10 ⟨rfl, rfl⟩
  go_wp2_with fail
  refine (t_get ka (by decide) noneV (by simp [letE, fndE, valE]) [] (by simp [letE]) H9.out.st).mono ?_
  rintro e w11 ⟨B2, B3, B4, d2, d3, d4, S11, rfl, _, _, H11⟩
  simp only [noneV]
  go_wp2
  go_ret
  exact ⟨rfl, ⟨H11.out.st.below0⟩⟩
end Go.Proofs.Ytmhdkjihhdljlaa.X
