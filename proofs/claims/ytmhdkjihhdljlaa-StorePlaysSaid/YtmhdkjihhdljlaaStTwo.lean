/- Two stores side by side; what a purge leaves as it is. -/
import Derived.Test.YtmhdkjihhdljlaaStOps
import Derived.Test.YtmhdkjihhdljlaaXx15
import Derived.Test.YtmhdkjihhdljlaaXx13
set_option linter.unusedVariables false
set_option linter.unusedSimpArgs false
namespace Go.Proofs.Ytmhdkjihhdljlaa.X
open Go.RowKit Go.Maps Go.ChangeMaps Go.MapKept Go.Proofs.Ytmhdkjihhdljlaa.Mv Go.Proofs.YtmhdkjihhdljlaaW.PrintWords Go.Proofs.YtmhdkjihhdljlaaW.PrintMore
section
variable {k : ByteArray} {E E1 E2 : List Ent} {x : Ent} {C : ByteArray → Int}
theorem purge_purge : purgeE (purgeE E) = purgeE E := by
  unfold purgeE
  rw [List.filter_filter]
  refine List.filter_congr fun a _ => ?_
  simp
theorem purge_let : purgeE (letE k E) = purgeE E := by
  unfold purgeE letE
  rw [List.filter_filter]
  refine List.filter_congr fun a _ => ?_
  cases a.past <;> simp
theorem purge_drop : purgeE (dropE k E) = dropE k (purgeE E) := by
  unfold purgeE dropE
  rw [List.filter_filter, List.filter_filter]
  refine List.filter_congr fun a _ => ?_
  cases a.past <;> simp
theorem purge_ins (hx : x.past = false) : purgeE (insE x E) = insE x (purgeE E) := by
  unfold purgeE insE
  rw [List.filter_append, List.filter_cons, hx, List.filter_filter, List.filter_filter, List.filter_filter, List.filter_filter]
  simp only [Bool.not_false, if_true]
  congr 1
  · refine List.filter_congr fun a _ => ?_
    rw [Bool.and_comm]
  · congr 1
    refine List.filter_congr fun a _ => ?_
    rw [Bool.and_comm]
theorem purge_upd (hx : x.past = false) (h : ∀ e ∈ E, e.key = k → e.past = false) : purgeE (updE k x E) = updE k x (purgeE E) := by
  unfold purgeE updE
  rw [List.filter_map]
  congr 1
  refine List.filter_congr fun a ha => ?_
  simp only [Function.comp]
  split
  · rename_i e
    rw [hx, h a ha e]
  · rfl
theorem let_past' : ∀ e ∈ letE k E, e.key = k → e.past = false := fun e he hk => by
  have := (List.mem_filter.1 he).2
  simpa [hk] using this
theorem purge_put (v : Vl) (h : purgeE E1 = purgeE E2) : purgeE (putE k v E1) = purgeE (putE k v E2) := by
  have e : fndE k (letE k E1) = fndE k (letE k E2) := by rw [fl_purge, fl_purge, h]
  unfold putE
  rw [e]
  cases hf : fndE k (letE k E2) with
  | none =>
    simp only
    split
    · rw [purge_let, purge_let, h]
    · rw [purge_ins rfl, purge_ins rfl, purge_let, purge_let, h]
  | some p =>
    have hp : p.past = false := (fl_key hf).2.2
    simp only
    split
    · rw [purge_drop, purge_drop, purge_let, purge_let, h]
    · rw [purge_upd (x := { p with v := v }) hp let_past', purge_upd (x := { p with v := v }) hp let_past', purge_let, purge_let, h]
theorem purge_set (now a : Int) (on : Bool) (h : purgeE E1 = purgeE E2) : purgeE (setE k now a on E1) = purgeE (setE k now a on E2) := by
  have e : fndE k (letE k E1) = fndE k (letE k E2) := by rw [fl_purge, fl_purge, h]
  unfold setE
  rw [e]
  cases hf : fndE k (letE k E2) with
  | none => simp only; rw [purge_let, purge_let, h]
  | some p =>
    have hp : p.past = false := (fl_key hf).2.2
    simp only
    split
    · split
      · rw [purge_drop, purge_drop, purge_let, purge_let, h]
      · rw [purge_upd (x := { p with due := a }) hp let_past', purge_upd (x := { p with due := a }) hp let_past', purge_let, purge_let, h]
    · rw [purge_upd (x := { p with due := 0 }) hp let_past', purge_upd (x := { p with due := 0 }) hp let_past', purge_let, purge_let, h]
theorem fl_same (h : purgeE E1 = purgeE E2) : fndE k (letE k E1) = fndE k (letE k E2) := by rw [fl_purge, fl_purge, h]
theorem putC_same (v : Vl) (h : purgeE E1 = purgeE E2) : putC k v E1 C = putC k v E2 C := by unfold putC; rw [fl_same h]
theorem setC_same (h : purgeE E1 = purgeE E2) : setC k E1 C = setC k E2 C := by unfold setC; rw [fl_same h]
theorem tick_purge (t : Int) : purgeE (tickE t E) = purgeE (tickE t (purgeE E)) := by
  unfold purgeE tickE
  rw [List.filter_map, List.filter_map, List.filter_filter]
  congr 1
  refine List.filter_congr fun a _ => ?_
  simp only [Function.comp]
  by_cases h : a.past = true
  · have : dueNow t a = false := by unfold dueNow; simp [h]
    unfold tick1
    rw [this, if_neg (by simp)]
    simp [h]
  · simp [h]
theorem purge_tick (t : Int) (h : purgeE E1 = purgeE E2) : purgeE (tickE t E1) = purgeE (tickE t E2) := by rw [tick_purge, h, ← tick_purge]
theorem tickC_purge (t : Int) (hu : ∀ e ∈ E, fndE e.key E = some e) : tickCE t E C = tickCE t (purgeE E) C := by
  funext s
  unfold tickCE
  cases hf : fndE s E with
  | none =>
    have : fndE s (purgeE E) = none := by
      cases hq : fndE s (purgeE E) with
      | none => rfl
      | some q =>
        obtain ⟨h1, h2⟩ := f_key hq
        have := List.find?_eq_none.1 hf q (List.mem_filter.1 h1).1
        simp [h2] at this
    rw [this]
  | some p =>
    obtain ⟨h1, h2⟩ := f_key hf
    by_cases hp : p.past = true
    · have hd : dueNow t p = false := by unfold dueNow; simp [hp]
      have : fndE s (purgeE E) = none := by
        cases hq : fndE s (purgeE E) with
        | none => rfl
        | some q =>
          obtain ⟨h3, h4⟩ := f_key hq
          obtain ⟨h5, h6⟩ := List.mem_filter.1 h3
          have := hu q h5
          rw [h4, hf] at this
          cases this
          simp [hp] at h6
      rw [this]
      simp only
      rw [hd, if_neg (by simp)]
    · have : fndE s (purgeE E) = some p := by
        rw [f_purge_ne, hf]
        intro e he hk
        have := hu e he
        rw [hk, hf] at this
        cases this
        simpa using hp
      rw [this]
theorem tickC_same (t : Int) (h : purgeE E1 = purgeE E2) (h1 : ∀ e ∈ E1, fndE e.key E1 = some e) (h2 : ∀ e ∈ E2, fndE e.key E2 = some e) : tickCE t E1 C = tickCE t E2 C := by rw [tickC_purge t h1, tickC_purge t h2, h]
theorem keys_purge : keysE E = (purgeE E).map (·.key) := rfl
theorem keys_same (h : purgeE E1 = purgeE E2) : keysE E1 = keysE E2 := by rw [keys_purge, keys_purge, h]
theorem keys_len : (keysE E).length = (purgeE E).length := by rw [keys_purge, List.length_map]
theorem purge_len : (purgeE E).length ≤ E.length := List.length_filter_le _ _
end
/-- Two stores, apart. -/
structure Two (w0 wr : World) (S T : Nat → Prop) (g me mc n nc : Nat) (now : Int) (E : List Ent) (C : ByteArray → Int) (g2 me2 mc2 n2 nc2 : Nat) (now2 : Int) (E2 : List Ent) (C2 : ByteArray → Int) : Prop where
  s : StoreSt w0 wr S g me mc n nc now E C
  t : StoreSt w0 wr T g2 me2 mc2 n2 nc2 now2 E2 C2
  d : ∀ i, S i → ¬ T i
section
variable {w0 wr w' : World} {S T S' T' : Nat → Prop} {g me mc n nc n' nc' g2 me2 mc2 n2 nc2 n2' nc2' : Nat} {now now' now2 now2' : Int} {E E' E2 E2' : List Ent} {C C' C2 C2' : ByteArray → Int}
theorem Two.below (h : Two w0 wr S T g me mc n nc now E C g2 me2 mc2 n2 nc2 now2 E2 C2) (hb : Below wr.heap.size wr w') : Two w0 w' S T g me mc n nc now E C g2 me2 mc2 n2 nc2 now2 E2 C2 := ⟨h.s.below hb, h.t.below hb, h.d⟩
theorem Two.drew (h : Two w0 wr S T g me mc n nc now E C g2 me2 mc2 n2 nc2 now2 E2 C2) : Two w0 wr.drew S T g me mc n nc now E C g2 me2 mc2 n2 nc2 now2 E2 C2 := h.below ⟨rfl, rfl, rfl, Nat.le_refl _, fun _ _ => rfl⟩
theorem Two.left (h : Two w0 wr S T g me mc n nc now E C g2 me2 mc2 n2 nc2 now2 E2 C2) (hp : Post w0 wr w' S g me mc n' nc' now' E' C' S') : Two w0 w' S' T g me mc n' nc' now' E' C' g2 me2 mc2 n2 nc2 now2 E2 C2 :=
  ⟨hp.st, (hp.other h.s h.t h.d).1, (hp.other h.s h.t h.d).2⟩
theorem Two.right (h : Two w0 wr S T g me mc n nc now E C g2 me2 mc2 n2 nc2 now2 E2 C2) (hp : Post w0 wr w' T g2 me2 mc2 n2' nc2' now2' E2' C2' T') : Two w0 w' S T' g me mc n nc now E C g2 me2 mc2 n2' nc2' now2' E2' C2' :=
  have ho := hp.other h.t h.s (fun i hi hs => h.d i hs hi)
  ⟨ho.1, hp.st, fun i hi ht => ho.2 i ht hi⟩
end
theorem StoreSt.vok {w0 w : World} {S : Nat → Prop} {g me mc n nc : Nat} {now : Int} {E : List Ent} {C : ByteArray → Int} (h : StoreSt w0 w S g me mc n nc now E C) (k : ByteArray) : VOk (valE (fndE k (letE k E))) := by
  obtain ⟨n', nc', A, h1, rfl, _⟩ := h
  cases hf : fndE k (letE k (ents A)) with
  | none => exact ⟨by simp [valE, noneV], by simp [valE, noneV], by simp [valE, noneV]⟩
  | some p =>
    obtain ⟨q, hq, rfl⟩ := ents_mem (fl_key hf).1
    exact h1.oks q hq
theorem StoreSt.len {w0 w : World} {S : Nat → Prop} {g me mc n nc : Nat} {now : Int} {E : List Ent} {C : ByteArray → Int} (h : StoreSt w0 w S g me mc n nc now E C) : E.length ≤ n := by
  obtain ⟨n', nc', A, h1, rfl, h3, _⟩ := h
  have := h1.len
  have : (ents A).length = A.length := List.length_map _
  omega
/-- A key of 10 bytes at most. -/
def keyB (s : ByteArray) : ByteArray := if (s.size : Int) > 10 then s.extract 0 10 else s
theorem keyB_size (s : ByteArray) : (keyB s).size ≤ maxLen := by
  unfold keyB
  split
  · rw [ByteArray.size_extract]; unfold maxLen; omega
  · unfold maxLen; omega
theorem key_any (s k : ByteArray) (hk : keyB s = k) (w : World) : Calls Try.prog 23 #[.string s] w fun e w' => e = .returned (.string k) ∧ Aside0 (Below w.heap.size w w') := by
  subst hk
  refine (tipstafflaw10_key.calls s (keyB s) w ?_).mono ?_
  · unfold tipstafflaw10_key.f keyB
    by_cases h : (s.size : Int) > 10
    · simp [h]; omega
    · simp [h]
  · rintro e w' ⟨rfl, h⟩
    exact ⟨rfl, ⟨h.below⟩⟩
theorem rdOf_at {l : List ByteArray} {i : Nat} (h : i < l.length) : rdOf ByteArray.empty l (i : Int) = l[i] := by
  unfold rdOf
  rw [Int.toNat_natCast, List.getD_eq_getElem?_getD, List.getElem?_eq_getElem h]
  rfl
theorem same_run (l : List ByteArray) (hl : l.length ≤ 1000000) : ∀ (d i : Nat), l.length - i = d → i ≤ l.length → ∀ k, d < k → tipstaffref01_Texts.l0 k l l (i : Int) = some true := by
  intro d
  induction d with
  | zero =>
    intro i hd hi k hk
    obtain ⟨k, rfl⟩ : ∃ k', k = k' + 1 := ⟨k - 1, by omega⟩
    simp only [tipstaffref01_Texts.l0]
    rw [if_neg (by omega)]
  | succ d ih =>
    intro i hd hi k hk
    obtain ⟨k, rfl⟩ : ∃ k', k = k' + 1 := ⟨k - 1, by omega⟩
    have hlt : i < l.length := by omega
    simp only [tipstaffref01_Texts.l0]
    rw [if_pos (by omega), if_pos (by omega), if_pos (by omega), if_pos trivial, wrap_succ i (by omega)]
    exact ih (i + 1) (by omega) (by omega) k (by omega)
theorem texts_same (A B : Option Addr) (c d : Nat) (l : List ByteArray) (q r : Nat) (hq : l.length = q) (hr : l.length = r) (w : World) (h : Kd.C Kd.string w A l.length l) (hc : q ≤ c) (h' : Kd.C Kd.string w B l.length l) (hd : r ≤ d) (hl : q ≤ 1000000) :
    Calls Try.prog 31 #[.slice A q c, .slice B r d] w fun e w' => e = .returned (.bool true) ∧ Aside0 (Below w.heap.size w w') := by
  subst hq hr
  refine (tipstaffref01_Texts.calls (l.length + 1) A c l B d l true w h hc h' hd ?_).mono ?_
  · have := same_run l hl l.length 0 rfl (by omega) (l.length + 1) (by omega)
    simpa [tipstaffref01_Texts.f] using this
  · rintro e w' ⟨rfl, hd⟩
    exact ⟨rfl, ⟨hd.below⟩⟩
end Go.Proofs.Ytmhdkjihhdljlaa.X
