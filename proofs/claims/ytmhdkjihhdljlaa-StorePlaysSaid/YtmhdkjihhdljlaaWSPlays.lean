/- StorePlays: from what comes in to its walk. -/
import Derived.Test.YtmhdkjihhdljlaaStRfU
import Derived.Test.YtmhdkjihhdljlaaXx14
import Derived.IntWalk
import Derived.Deep.DeepCutAuto
import Derived.Deep.CutRange
import Derived.Test.YtmhdkjihhdljlaaOSt
set_option linter.unusedVariables false
set_option linter.unusedSimpArgs false
namespace Go.Proofs.Ytmhdkjihhdljlaa.X
open Go.RowKit Go.Maps Go.ChangeMaps Go.MapKept Go.Proofs.Ytmhdkjihhdljlaa.Mv Go.Proofs.YtmhdkjihhdljlaaW.PrintWords Go.Proofs.YtmhdkjihhdljlaaW.PrintMore
section
variable {w0 w w1 : World} {S S' : Nat → Prop} {g me mc n nc n' nc' y b : Nat} {now now' time : Int} {E E' : List Ent} {C C' : ByteArray → Int} {D D' : List (ByteArray × Int)}
/-- What the document's calls turn leaves the program's store. -/
theorem StoreSt.kpD (h : StoreSt w0 w S g me mc n nc now E C) (hk : Kp (DT w0.heap.size w) w w1) : StoreSt w0 w1 S g me mc n nc now E C := by
  obtain ⟨n', nc', A, h1, h2, h3, h4, h5, h6⟩ := h
  obtain ⟨M, hM, hR⟩ := h1.ents
  obtain ⟨N, hN, hC⟩ := h1.cnts
  have hs : ∀ i, SB g me mc A i → w1.heap[i]? = w.heap[i]? := fun i hi => hk.block i (h1.sb i hi).2.1 fun ⟨_, cs, t, e1, e2⟩ => by
    rcases (h1.sb i hi).2.2 cs t e1 with rfl | rfl <;> rcases e2 with e | e | e <;> exact absurd e (by decide)
  have hr : ∀ (k : Nat) (cs : Array Value) (t : TypeId), w.heap[k]? = some (.cells cs t (0, 0)) → t = 9 ∨ t = 66 ∨ t = 69 → w1.heap[k]? = w.heap[k]? := fun k cs t hc ht => hk.block k (pwlt hc) fun ⟨_, cs', t', e1, e2⟩ => by
    rw [hc] at e1
    injection e1 with e1
    injection e1 with _ e1 _
    subst e1
    rcases ht with rfl | rfl | rfl <;> rcases e2 with e | e | e <;> exact absurd e (by decide)
  refine ⟨n', nc', A, { h1 with top := (hs g (.inl rfl)).trans h1.top, ents := ⟨M, hM.same (hs me (.inr (.inl rfl))), hR⟩, cnts := ⟨N, hN.same (hs mc (.inr (.inr (.inl rfl)))), hC⟩, at_ := fun p hp => ?_ }, h2, h3, h4, below_kp h5 hk (fun i hi => hi.1), h6⟩
  obtain ⟨v2, v3, v4, e1, e2⟩ := h1.at_ p hp
  exact ⟨v2, v3, v4, (hs _ (.inr (.inr (.inr ⟨p, hp, rfl⟩)))).trans e1, e2.typed hr⟩
theorem DS.post (h : DS w b y E D time) (h0 : StoreSt w0 w S g me mc n nc now E' C) {E2 : List Ent} {C2 : ByteArray → Int} (hp : Post w0 w w1 S g me mc n' nc' now' E2 C2 S') : DS w1 b y E D time := by
  obtain ⟨⟨vL, vC, Z, h1⟩, h2, h3, h4⟩ := h
  exact ⟨⟨vL, vC, Z, h1.kp hp.kp h0.typ⟩, h2, h3, h4⟩
/-- Both, with the same entries and counts. -/
structure Duo (w0 w : World) (S : Nat → Prop) (g me mc n nc : Nat) (now : Int) (E : List Ent) (C : ByteArray → Int) (y : Nat) (D : List (ByteArray × Int)) : Prop where
  s : StoreSt w0 w S g me mc n nc now E C
  d : DS w w0.heap.size y E D now
  c : ∀ k, lkp k D = C k
  l : D.length ≤ nc
theorem Duo.below (h : Duo w0 w S g me mc n nc now E C y D) (hb : Below w.heap.size w w1) : Duo w0 w1 S g me mc n nc now E C y D := ⟨h.s.below hb, h.d.below hb, h.c, h.l⟩
theorem Duo.drew (h : Duo w0 w S g me mc n nc now E C y D) : Duo w0 w.drew S g me mc n nc now E C y D := h.below ⟨rfl, rfl, rfl, Nat.le_refl _, fun _ _ => rfl⟩
theorem Duo.hb (h : Duo w0 w S g me mc n nc now E C y D) : w0.heap.size ≤ w.heap.size := h.s.below0.size
theorem Duo.mono (h : Duo w0 w S g me mc n nc now E C y D) {m mc' : Nat} (hm : n ≤ m) (hc : nc ≤ mc') : Duo w0 w S g me mc m mc' now E C y D := ⟨h.s.mono hm hc, h.d, h.c, Nat.le_trans h.l hc⟩
theorem lkp_put (k : ByteArray) (v : Vl) (hc : ∀ s, lkp s D = C s) : ∀ s, lkp s (if v.kind = 0 ∧ fndE k (letE k E) = none then D else cntD k D) = putC k v E C s := fun s => by
  unfold putC
  split
  · exact hc s
  · rw [lkp_cnt]; unfold bump; rw [hc, hc]
theorem lkp_set (k : ByteArray) (r : Bool) (hr : (fndE k (letE k E)).isSome = r) (hc : ∀ s, lkp s D = C s) : ∀ s, lkp s (if r = true then cntD k D else D) = setC k E C s := fun s => by
  subst hr
  unfold setC
  cases hf : fndE k (letE k E) with
  | none => simpa using hc s
  | some p => simp only [Option.isSome_some, if_true]; rw [lkp_cnt, if_neg (show ¬ (some p = none) from nofun)]; unfold bump; rw [hc, hc]
end
end Go.Proofs.Ytmhdkjihhdljlaa.X
namespace Go.Proofs.Ytmhdkjihhdljlaa.X
open Go.RowKit Go.Lib Go.Proofs.YtmhdkjihhdljlaaW.PrintWords Go.Proofs.YtmhdkjihhdljlaaW.PrintMore
/-! the document's Same -/
theorem texts_loop (x y : List ByteArray) (h : x.length = y.length) (hl : x.length ≤ 1000000) : ∀ (m k i : Nat), i + m = x.length → m < k → ∃ b, tipstaffref01_Texts.l0 k x y (i : Int) = some b ∧ (b = true ↔ x.drop i = y.drop i) := by
  intro m
  induction m with
  | zero =>
    intro k i hi hk
    obtain ⟨k, rfl⟩ : ∃ q, k = q + 1 := ⟨k - 1, by omega⟩
    refine ⟨true, by rw [tipstaffref01_Texts.l0, if_neg (by omega)], ?_⟩
    simp only [true_iff]
    rw [List.drop_eq_nil_of_le (by omega), List.drop_eq_nil_of_le (by omega)]
  | succ m ih =>
    intro k i hi hk
    obtain ⟨k, rfl⟩ : ∃ q, k = q + 1 := ⟨k - 1, by omega⟩
    have hix : i < x.length := by omega
    have hiy : i < y.length := by omega
    rw [tipstaffref01_Texts.l0, if_pos (by omega), if_pos (by omega), if_pos (by omega), rdOf_get x i hix, rdOf_get y i hiy]
    rw [List.drop_eq_getElem_cons hix, List.drop_eq_getElem_cons hiy]
    by_cases he : x[i] = y[i]
    · rw [if_pos (by rw [he]), show wrap64 ((i : Int) + 1) = ((i + 1 : Nat) : Int) by unfold wrap64; omega]
      obtain ⟨b, h1, h2⟩ := ih k (i + 1) (by omega) (by omega)
      exact ⟨b, h1, by rw [h2, he]; exact ⟨fun h => by rw [h], fun h => (List.cons.inj h).2⟩⟩
    · rw [if_neg (fun h => he ((bytes_inj _ _).1 h))]
      exact ⟨false, rfl, ⟨(fun h => nomatch h), fun h => absurd (List.cons.inj h).1 he⟩⟩
theorem texts_f (k : Nat) (x y : List ByteArray) (hl : x.length ≤ 1000000) (hk : 1000000 < k) : ∃ b, tipstaffref01_Texts.f k x y = some b ∧ (b = true ↔ x = y) := by
  unfold tipstaffref01_Texts.f
  by_cases h : (x.length : Int) = (y.length : Int)
  · rw [if_pos h]
    have := texts_loop x y (by omega) hl x.length k 0 (by omega) (by omega)
    simpa using this
  · rw [if_neg h]
    exact ⟨false, rfl, by simp; rintro rfl; exact h rfl⟩
section
variable (a0 : Int) (a1 : ByteArray) (a2 : List ByteArray) (a3 : List SP) (a4 : List SM) (b0 : Int) (b1 : ByteArray) (b2 : List ByteArray) (b3 : List SP) (b4 : List SM)
theorem ref_same_l1 (h : a4.length = b4.length) (hl : a4.length ≤ 1000000) : ∀ (m k i : Nat), i + m = a4.length → m < k → ∃ b, tipstaffref09_Same.l1 k (i : Int) a0 a1 a2 a3 a4 b0 b1 b2 b3 b4 = some b ∧ (b = true ↔ a4.drop i = b4.drop i) := by
  intro m
  induction m with
  | zero =>
    intro k i hi hk
    obtain ⟨k, rfl⟩ : ∃ q, k = q + 1 := ⟨k - 1, by omega⟩
    refine ⟨true, by rw [tipstaffref09_Same.l1, if_neg (by omega)], ?_⟩
    simp only [true_iff]
    rw [List.drop_eq_nil_of_le (by omega), List.drop_eq_nil_of_le (by omega)]
  | succ m ih =>
    intro k i hi hk
    obtain ⟨k, rfl⟩ : ∃ q, k = q + 1 := ⟨k - 1, by omega⟩
    have hix : i < a4.length := by omega
    have hiy : i < b4.length := by omega
    rw [tipstaffref09_Same.l1, if_pos (by omega), if_pos (by omega), if_pos (by omega), rd_getMark a4 i hix, rd_getMark b4 i hiy]
    rw [List.drop_eq_getElem_cons hix, List.drop_eq_getElem_cons hiy]
    by_cases he : a4[i] = b4[i]
    · rw [if_neg (by rw [he]; simp), show wrap64 ((i : Int) + 1) = ((i + 1 : Nat) : Int) by unfold wrap64; omega]
      obtain ⟨b, h1, h2⟩ := ih k (i + 1) (by omega) (by omega)
      exact ⟨b, h1, by rw [h2, he]; exact ⟨fun h => by rw [h], fun h => (List.cons.inj h).2⟩⟩
    · rw [if_pos ?_]
      · exact ⟨false, rfl, ⟨(fun h => nomatch h), fun h => absurd (List.cons.inj h).1 he⟩⟩
      · generalize a4[i] = u at *
        generalize b4[i] = v at *
        cases u; cases v
        simp only [Bool.or_eq_true, Bool.not_eq_true', beq_eq_false_iff_ne, ne_eq, bytes_inj]
        simp only [S69.mk.injEq, Classical.not_and_iff_not_or_not] at he
        exact he
theorem ref_same_l0 (h : a3.length = b3.length) (hl : a3.length ≤ 1000000) (h4 : a4.length = b4.length) (hl4 : a4.length ≤ 1000000) : ∀ (m k i : Nat), i + m = a3.length → 2000000 + m < k → ∃ b, tipstaffref09_Same.l0 k (i : Int) a0 a1 a2 a3 a4 b0 b1 b2 b3 b4 = some b ∧ (b = true ↔ a3.drop i = b3.drop i ∧ a4 = b4) := by
  intro m
  induction m with
  | zero =>
    intro k i hi hk
    obtain ⟨k, rfl⟩ : ∃ q, k = q + 1 := ⟨k - 1, by omega⟩
    rw [tipstaffref09_Same.l0, if_neg (by omega), List.drop_eq_nil_of_le (by omega), List.drop_eq_nil_of_le (by omega)]
    obtain ⟨b, h1, h2⟩ := ref_same_l1 a0 a1 a2 a3 a4 b0 b1 b2 b3 b4 h4 hl4 a4.length k 0 (by omega) (by omega)
    refine ⟨b, h1, ?_⟩
    simpa using h2
  | succ m ih =>
    intro k i hi hk
    obtain ⟨k, rfl⟩ : ∃ q, k = q + 1 := ⟨k - 1, by omega⟩
    have hix : i < a3.length := by omega
    have hiy : i < b3.length := by omega
    rw [tipstaffref09_Same.l0, if_pos (by omega), if_pos (by omega), if_pos (by omega), rd_getPair a3 i hix, rd_getPair b3 i hiy]
    rw [List.drop_eq_getElem_cons hix, List.drop_eq_getElem_cons hiy]
    by_cases he : a3[i] = b3[i]
    · rw [if_neg (by rw [he]; simp), show wrap64 ((i : Int) + 1) = ((i + 1 : Nat) : Int) by unfold wrap64; omega]
      obtain ⟨b, h1, h2⟩ := ih k (i + 1) (by omega) (by omega)
      exact ⟨b, h1, by rw [h2, he]; exact ⟨fun h => ⟨by rw [h.1], h.2⟩, fun h => ⟨(List.cons.inj h.1).2, h.2⟩⟩⟩
    · rw [if_pos ?_]
      · exact ⟨false, rfl, ⟨(fun h => nomatch h), fun h => absurd (List.cons.inj h.1).1 he⟩⟩
      · generalize a3[i] = u at *
        generalize b3[i] = v at *
        cases u; cases v
        simp only [Bool.or_eq_true, Bool.not_eq_true', beq_eq_false_iff_ne, ne_eq, bytes_inj]
        simp only [S66.mk.injEq, Classical.not_and_iff_not_or_not] at he
        exact he
theorem ref_same (k : Nat) (h2 : a2.length ≤ 1000000) (h3 : a3.length ≤ 1000000) (h4 : a4.length ≤ 1000000) (hk : 5000000 < k) :
    ∃ b, tipstaffref09_Same.f k a0 a1 a2 a3 a4 b0 b1 b2 b3 b4 = some b ∧ (b = true ↔ a0 = b0 ∧ a1 = b1 ∧ a2 = b2 ∧ a3 = b3 ∧ a4 = b4) := by
  obtain ⟨bt, et, it⟩ := texts_f k a2 b2 h2 (by omega)
  obtain ⟨k, rfl⟩ : ∃ q, k = q + 1 := ⟨k - 1, by omega⟩
  have J : tipstaffref09_Same.j0 (k + 1) true a0 a1 a2 a3 a4 b0 b1 b2 b3 b4 = some false := by rw [tipstaffref09_Same.j0, if_pos rfl]
  unfold tipstaffref09_Same.f
  rw [et]
  simp only [Option.bind_some, bytes_inj, J]
  by_cases c0 : a0 = b0
  case neg => rw [if_neg c0]; exact ⟨false, rfl, by simp [c0]⟩
  rw [if_pos c0]
  by_cases c1 : a1 = b1
  case neg => rw [if_neg c1]; exact ⟨false, rfl, by simp [c1]⟩
  rw [if_pos c1]
  by_cases c2 : bt = true
  case neg => rw [if_neg c2]; exact ⟨false, rfl, by simp; intro _ _ h; exact absurd (it.2 h) c2⟩
  rw [if_pos c2]
  have e2 := it.1 c2
  by_cases c3 : (a3.length : Int) = (b3.length : Int)
  case neg => rw [if_neg c3]; exact ⟨false, rfl, by simp; rintro _ _ _ rfl; exact absurd rfl c3⟩
  rw [if_pos c3]
  by_cases c4 : (a4.length : Int) = (b4.length : Int)
  case neg =>
    rw [show ((a4.length : Int) != (b4.length : Int)) = true from bne_iff_ne.2 c4, J]
    exact ⟨false, rfl, by simp; rintro _ _ _ _ rfl; exact absurd rfl c4⟩
  rw [show ((a4.length : Int) != (b4.length : Int)) = false from bne_eq_false_iff_eq.2 c4, tipstaffref09_Same.j0, if_neg (by decide)]
  obtain ⟨b, e, i⟩ := ref_same_l0 a0 a1 a2 a3 a4 b0 b1 b2 b3 b4 (by omega) h3 (by omega) h4 a3.length k 0 (by omega) (by omega)
  refine ⟨b, e, i.trans ?_⟩
  simp [c0, c1, e2]
end

theorem rsame_any {w : World} {x y : Vl} {A2 A3 A4 : Option Addr} {n2 n3 n4 c2 c3 c4 : Nat} {B2 B3 B4 : Option Addr} {m2 m3 m4 d2 d3 d4 : Nat} (hx : VOk x) (h : VC w x A2 A3 A4 n2 n3 n4 c2 c3 c4) (h' : VC w y B2 B3 B4 m2 m3 m4 d2 d3 d4) (hxy : x = y) :
    Calls Try.prog 24 #[.agg #[.int .u8 x.kind, .string x.s, .slice A2 n2 c2, .slice A3 n3 c3, .slice A4 n4 c4], .agg #[.int .u8 y.kind, .string y.s, .slice B2 m2 d2, .slice B3 m3 d3, .slice B4 m4 d4]] w fun e w' => e = .returned (.bool true) ∧ Aside0 (Below w.heap.size w w') := by
  subst hxy
  obtain ⟨rfl, rfl, rfl, l2, l3, l4, C2, C3, C4⟩ := h
  obtain ⟨rfl, rfl, rfl, k2, k3, k4, D2, D3, D4⟩ := h'
  obtain ⟨b, hb, hi⟩ := ref_same x.kind x.s x.l x.h x.z x.kind x.s x.l x.h x.z 5000001 hx.1 hx.2.1 hx.2.2 (by omega)
  obtain rfl := hi.2 ⟨rfl, rfl, rfl, rfl, rfl⟩
  refine (tipstaffref09_Same.calls 5000001 x.kind x.s A2 c2 x.l A3 c3 x.h A4 c4 x.z x.kind x.s B2 d2 x.l B3 d3 x.h B4 d4 x.z true w C2 l2 C3 l3 C4 l4 D2 k2 D3 k3 D4 k4 hb).mono ?_
  rintro e w' ⟨rfl, hd⟩
  exact ⟨rfl, ⟨hd⟩⟩
end Go.Proofs.Ytmhdkjihhdljlaa.X
namespace Go.Proofs.Ytmhdkjihhdljlaa.X
open Go.RowKit Go.Maps Go.ChangeMaps Go.MapKept Go.Proofs.Ytmhdkjihhdljlaa.Mv Go.Proofs.YtmhdkjihhdljlaaW.PrintWords Go.Proofs.YtmhdkjihhdljlaaW.PrintMore
attribute [local go_sem] fieldV0 fieldV1
/-- Behind a thing that was done: both hold the same. -/
def PAll (w0 wx : World) (g me mc y n nc : Nat) : Prop := ∃ (S : Nat → Prop) (now : Int) (E : List Ent) (C : ByteArray → Int) (D : List (ByteArray × Int)), Duo w0 wx S g me mc n nc now E C y D ∧ 0 ≤ now ∧ now ≤ lst
theorem ds_new {u : World} {b : Nat} (hb : b ≤ u.heap.size) : DS (u.alloc (.cells #[.slice none 0 0, .slice none 0 0, .int .i64 0] 56)) b u.heap.size [] [] 0 :=
  ⟨⟨_, _, [], ⟨by have := heap_alloc_new u (.cells #[.slice none 0 0, .slice none 0 0, .int .i64 0] 56); simpa using this, Kd.R_nil _ _ _ _ _, Kd.R_nil _ _ _ _ _, rfl, (fun x hx => by cases hx), hb, (fun x hx => by cases hx)⟩⟩, List.Pairwise.nil, by simp, by simp⟩
theorem RowsAt.lower {w : World} {b b' : Nat} {x : Vl} {v2 v3 v4 : Value} (h : RowsAt w b x v2 v3 v4) (hb : b' ≤ b) : RowsAt w b' x v2 v3 v4 := ⟨Kd.R_lower h.1 hb, Kd.R_lower h.2.1 hb, Kd.R_lower h.2.2 hb⟩
theorem RowsAt.vc {w : World} {b : Nat} {x : Vl} {A2 A3 A4 : Option Addr} {n2 n3 n4 c2 c3 c4 : Nat} (h : RowsAt w b x (.slice A2 n2 c2) (.slice A3 n3 c3) (.slice A4 n4 c4)) : VC w x A2 A3 A4 n2 n3 n4 c2 c3 c4 := by
  have e2 := (Kd.R_reads' h.1).1
  have e3 := (Kd.R_reads' h.2.1).1
  have e4 := (Kd.R_reads' h.2.2).1
  subst e2 e3 e4
  exact VR.vc ⟨rfl, rfl, rfl, h⟩
theorem dtop_keep {u u' : World} {b q : Nat} {cs : Array Value} (hk : Kp (DT b u) u u') (hu : u.heap[q]? = some (.cells cs 42 (0, 0))) : u'.heap[q]? = some (.cells cs 42 (0, 0)) := (hk.block q (pwlt hu) fun ⟨_, cs', t, h1, h2⟩ => by
  rw [hu] at h1
  injection h1 with h1
  injection h1 with _ h1 _
  subst h1
  rcases h2 with h | h | h <;> exact absurd h (by decide)).trans hu
theorem lkp_tk {t : Int} {E : List Ent} {D : List (ByteArray × Int)} {C : ByteArray → Int} (hs : Srt E) (hc : ∀ s, lkp s D = C s) : ∀ s, lkp s (tickD t E D) = tickCE t E C s := fun s => by
  rw [lkp_tick _ _ _ _ hs]
  unfold tickCE
  simp only [hc]
  cases fndE s E <;> rfl
set_option maxHeartbeats 4000000 in
set_option maxRecDepth 100000 in
theorem StorePlays_walk (A1 : Option Addr) (l : List Op10) (c1 : Nat) (w : World) (hl : kOp.C w A1 l.length l) (hc : l.length ≤ c1) (hok : ∀ o ∈ l, OpOk o) :
    Calls Try.prog 7 #[.slice A1 l.length c1] w fun e w' => e = .returned (.bool true) ∧ Below w.heap.size w w' := by
  have HL := Aside0.mk hl
  have HOK := Aside0.mk hok
  have HC := Aside0.mk hc
  clear hl hok hc
  go_enter Try.func7, Try.ntmps7
  go_wp2_with fail
  refine (shown_true w).mono ?_
  rintro e w3 ⟨rfl, HB3⟩
  go_wp2_with fail
  refine (s_new HB3.out).mono ?_
  rintro e w4 ⟨g, me, mc, S4, rfl, H4, HN4, HB4⟩
  obtain ⟨y, hy⟩ : ∃ y, w4.heap.size = y := ⟨_, rfl⟩
  have HA5 := Aside0.mk (show PAll w (w4.alloc (.cells #[.slice none 0 0, .slice none 0 0, .int .i64 0] 56)) g me mc y 0 0 from ⟨S4, 0, [], fun _ => 0, [], ⟨H4.out.below ((Below.refl _ _).alloc (Nat.le_refl _) _), hy ▸ ds_new H4.out.below0.size, fun _ => rfl, Nat.le_refl _⟩, by omega, by decide⟩)
  clear H4 HN4 HB3 HB4
  go_wp2
  clear hy
  go_loopw [6] (fun v6 wr => ∃ i : Nat, v6 = .int .i64 i ∧ i ≤ 60 ∧ i ≤ l.length ∧ Aside0 (PAll w wr g me mc y i (70 * i))) (fun v6 _ => 60 - (match v6 with | .int _ i => i.toNat | _ => 0))
  case atStart => exact ⟨0, rfl, by omega, by omega, HA5⟩
  case round =>
    clear HA5
    obtain ⟨i, rfl, hi, hil, HA⟩ := hrel
    obtain ⟨S, now, E, C, D, hduo, ht0, ht1⟩ := HA.out
    have HT := Aside0.mk hduo
    clear HA hduo
    by_cases hlt : i < l.length ∧ i < 60
    · obtain ⟨hl1, hl2⟩ := hlt
      have hI1 : (i : Int) < l.length := by omega
      have hI2 : (i : Int) < 60 := by omega
      obtain ⟨ad, p, D2, D3, D4, o2, o3, o4, f2, f3, f4, e0, hp, hvo, k0, k1, k2, k3, k4, k5, k6, k7, k8⟩ := op_cells2 HL.out HT.out.s.below0 hl1
      subst e0
      have hon := HOK.out _ (List.getElem_mem hl1)
      rw [show l[i] = l.getD i op0 by rw [List.getD_eq_getElem?_getD, List.getElem?_eq_getElem hl1]; rfl] at hon
      obtain ⟨o, ho⟩ : ∃ o, l.getD i op0 = o := ⟨_, rfl⟩
      rw [ho] at hvo k0 k1 k2 k3 k7 k8 hon
      obtain ⟨ok_, okey, ov, on_, oon⟩ := o
      simp only at hvo k0 k1 k2 k3 k7 k8
      have hk0 := hon.kind.1
      have hk1 := hon.kind.2
      simp only at hk0 hk1
      have HVO := Aside0.mk hvo
      clear ho hon hvo
      go_wp2_with fail
      obtain ⟨w10, hw10, HB10, HC10⟩ := named_alloc wr #[.int .u8 ok_, .string okey, .int .u8 ov.kind, .string ov.s, .slice D2 o2 f2, .slice D3 o3 f3, .slice D4 o4 f4, .int .i64 on_, .bool oon] 42
      have HT10 := Aside0.mk (HT.out.below HB10.out)
      obtain ⟨go, hgo⟩ : ∃ q, wr.heap.size = q := ⟨_, rfl⟩
      have HNO := Aside0.mk (show ¬ S go from fun h => by have := (HT.out.s.in_ _ h).2; omega)
      rw [hgo] at HC10
      rw [hw10, hgo]
      clear hw10 hgo k0 k1 k2 k3 k4 k5 k6 k7 k8 HT hp
      obtain ⟨k, hk⟩ : ∃ k, keyB okey = k := ⟨_, rfl⟩
      have HKS := Aside0.mk (show k.size ≤ maxLen by rw [← hk]; exact keyB_size okey)
      refine (key_any okey k hk w10).mono ?_
      clear hk
      rintro e w11 ⟨rfl, HB11⟩
      have HT11 := Aside0.mk (HT10.out.below HB11.out)
      have HCO := Aside0.mk ((HB11.out.block go (pwlt HC10.out)).trans HC10.out)
      obtain ⟨r0, r1, r2, r3, r4, r5, r6, r7, r8⟩ := cells9 HCO.out
      go_upto_block 2 with (fail)
      clear HB10 HB11 HT10 HC10
      have HNC := Aside0.mk (show 70 * i < maxLen by unfold maxLen; omega)
      have HN := Aside0.mk (show i < maxLen by unfold maxLen; omega)
      go_cut [2, 9, 10, 11, 12, 13, 44, 57, 68, 85, 95, 105, 112] (fun _ _ _ _ _ _ _ _ _ _ _ _ _ wx => PAll w wx g me mc y (i + 1) (70 * i + 70))
      case first =>
        have hk8 : ok_ % 8 = 0 ∨ ok_ % 8 = 1 ∨ ok_ % 8 = 2 ∨ ok_ % 8 = 3 ∨ ok_ % 8 = 4 ∨ ok_ % 8 = 5 ∨ ok_ % 8 = 6 ∨ ok_ % 8 = 7 := by omega
        rcases hk8 with hk | hk | hk | hk | hk | hk | hk | hk
        · go_wp2_with fail
          obtain ⟨z, hz⟩ : ∃ z, fitV ov = z := ⟨_, rfl⟩
          have HZ := Aside0.mk hz
          have HFO := Aside0.mk (show VFit z by rw [← hz]; exact (fit_eq ov).2)
          clear hz
          refine (fit_any ov z HZ.out (HVO.out.below HT11.out.s.below0)).mono ?_
          rintro e w12 ⟨Z2, Z3, Z4, y2, y3, y4, z2, z3, z4, rfl, HR12, HB12⟩
          have HT12 := Aside0.mk (HT11.out.below HB12.out)
          have HCO12 := Aside0.mk ((HB12.out.block go (pwlt HCO.out)).trans HCO.out)
          clear r0 r1 r2 r3 r4 r5 r6 r7 r8
          go_wp2_with fail
          refine (g_put k HKS.out HN.out HNC.out z HFO.out _ rfl _ rfl HR12.out.vc HT12.out.s).mono ?_
          rintro e w13 ⟨rfl, S13, H13⟩
          have HD13 := Aside0.mk (HT12.out.d.post HT12.out.s H13.out)
          have HCO13 := Aside0.mk (H13.out.keep HCO12.out HNO.out)
          obtain ⟨r0, r1, r2, r3, r4, r5, r6, r7, r8⟩ := cells9 HCO13.out.1
          go_wp2_with fail
          refine (fit_any ov z HZ.out (HVO.out.below H13.out.st.below0)).mono ?_
          rintro e w14 ⟨X2, X3, X4, v2, v3, v4, u2', u3', u4', rfl, HR14, HB14⟩
          have HD14 := Aside0.mk (HD13.out.below HB14.out)
          have HS14 := Aside0.mk (H13.out.st.below HB14.out)
          clear r0 r1 r2 r3 r4 r5 r6 r7 r8
          go_wp2_with fail
          refine (d_put k z X2 X3 X4 v2 v3 v4 u2' u3' u4' (HR14.out.rows.lower H13.out.st.below0.size) HD14.out HS14.out.below0.size (Nat.le_trans HT11.out.l (by omega)) _ rfl HS14.out.srt (Nat.le_trans HS14.out.len (by omega)) _ rfl).mono ?_
          rintro e w15 ⟨rfl, HD15, HK15⟩
          go_wp2_with fail
          go_meet
          exact ⟨_, now, _, _, _, ⟨(HS14.out.kpD HK15.out).mono (by omega) (by omega), HD15.out, lkp_put k z HT11.out.c, by have h1 := HT11.out.l; split <;> first | omega | (have := cnt_len k D; omega)⟩, ht0, ht1⟩
        · go_wp2_with fail
          obtain ⟨z, hz⟩ : ∃ z, fitV ov = z := ⟨_, rfl⟩
          have HZ := Aside0.mk hz
          have HFO := Aside0.mk (show VFit z by rw [← hz]; exact (fit_eq ov).2)
          clear hz
          refine (fit_any ov z HZ.out (HVO.out.below HT11.out.s.below0)).mono ?_
          rintro e w12 ⟨Z2, Z3, Z4, y2, y3, y4, z2, z3, z4, rfl, HR12, HB12⟩
          have HT12 := Aside0.mk (HT11.out.below HB12.out)
          have HCO12 := Aside0.mk ((HB12.out.block go (pwlt HCO.out)).trans HCO.out)
          clear r0 r1 r2 r3 r4 r5 r6 r7 r8
          go_wp2_with fail
          refine (g_put k HKS.out HN.out HNC.out z HFO.out _ rfl _ rfl HR12.out.vc HT12.out.s).mono ?_
          rintro e w13 ⟨rfl, S13, H13⟩
          have HD13 := Aside0.mk (HT12.out.d.post HT12.out.s H13.out)
          have HCO13 := Aside0.mk (H13.out.keep HCO12.out HNO.out)
          obtain ⟨r0, r1, r2, r3, r4, r5, r6, r7, r8⟩ := cells9 HCO13.out.1
          go_wp2_with fail
          refine (fit_any ov z HZ.out (HVO.out.below H13.out.st.below0)).mono ?_
          rintro e w14 ⟨X2, X3, X4, v2, v3, v4, u2', u3', u4', rfl, HR14, HB14⟩
          have HD14 := Aside0.mk (HD13.out.below HB14.out)
          have HS14 := Aside0.mk (H13.out.st.below HB14.out)
          clear r0 r1 r2 r3 r4 r5 r6 r7 r8
          go_wp2_with fail
          refine (d_put k z X2 X3 X4 v2 v3 v4 u2' u3' u4' (HR14.out.rows.lower H13.out.st.below0.size) HD14.out HS14.out.below0.size (Nat.le_trans HT11.out.l (by omega)) _ rfl HS14.out.srt (Nat.le_trans HS14.out.len (by omega)) _ rfl).mono ?_
          rintro e w15 ⟨rfl, HD15, HK15⟩
          go_wp2_with fail
          go_meet
          exact ⟨_, now, _, _, _, ⟨(HS14.out.kpD HK15.out).mono (by omega) (by omega), HD15.out, lkp_put k z HT11.out.c, by have h1 := HT11.out.l; split <;> first | omega | (have := cnt_len k D; omega)⟩, ht0, ht1⟩
        · go_wp2_with fail
          obtain ⟨x, hx⟩ : ∃ x, valE (fndE k (letE k E)) = x := ⟨_, rfl⟩
          have HXV := Aside0.mk hx
          have HXO := Aside0.mk (show VOk x by rw [← hx]; exact HT11.out.s.vok k)
          clear hx
          refine (v_get k HKS.out x HXV.out _ rfl HT11.out.s).mono ?_
          rintro e w12 ⟨G2, G3, G4, g2', g3', g4', h2, h3, h4, S12, rfl, HR12, H12⟩
          have HD12 := Aside0.mk (HT11.out.d.post HT11.out.s H12.out)
          have HRW := Aside0.mk (HR12.out.rows.lower HT11.out.hb)
          clear r0 r1 r2 r3 r4 r5 r6 r7 r8
          go_wp2_with fail
          refine (d_get k HD12.out H12.out.st.below0.size _ rfl x HXV.out).mono ?_
          rintro e w13 ⟨J2, J3, J4, j2, j3, j4, l2, l3, l4, rfl, HR13, HD13, HK13⟩
          have HS13 := Aside0.mk (H12.out.st.kpD HK13.out)
          have HRW13 := Aside0.mk (dt_rows HRW.out HK13.out)
          go_wp2_with fail
          refine (rsame_any HXO.out HRW13.out.vc HR13.out.vc rfl).mono ?_
          rintro e w14 ⟨rfl, HB14⟩
          go_wp2_with fail
          go_meet
          exact ⟨_, now, _, _, _, ⟨(HS13.out.below HB14.out).mono (by omega) (by omega), HD13.out.below HB14.out, HT11.out.c, Nat.le_trans HT11.out.l (by omega)⟩, ht0, ht1⟩
        · go_wp2_with fail
          have HT12 := Aside0.mk HT11.out.drew
          obtain ⟨rb, hrb⟩ : ∃ rb, (fndE k (letE k E)).isSome = rb := ⟨_, rfl⟩
          have HRB := Aside0.mk hrb
          clear hrb
          go_region_held3 (fun wz => wz.cell? ⟨go, 7, none⟩ = some (.int .i64 on_) ∧ wz.cell? ⟨go, 8, none⟩ = some (.bool oon)) (first | exact ⟨r7, r8⟩ | exact HY1.out | exact HY2.out) (first
            | (go_at_call 12
               (with_reducible refine (t_set (g := g) k HKS.out HNC.out on_ oon rb HRB.out _ rfl _ rfl HT12.out.s).mono ?_)
               rintro e w12 ⟨rfl, S12, H12⟩
               have HD12 := Aside0.mk (HT12.out.d.post HT12.out.s H12.out)
               have HCO12 := Aside0.mk (H12.out.keep (show w11.drew.heap[go]? = _ from HCO.out) HNO.out)
               have HY1 := Aside0.mk (show _ ∧ _ from ⟨(cells9 HCO12.out.1).2.2.2.2.2.2.2.1, (cells9 HCO12.out.1).2.2.2.2.2.2.2.2⟩)
               have HLD := Aside0.mk (show D.length ≤ 8999 from Nat.le_trans HT11.out.l (Nat.le_trans (Nat.mul_le_mul_left 70 hi) (Nat.le_of_ble_eq_true rfl)))
               have HLE := Aside0.mk (Nat.le_trans H12.out.st.len (Nat.le_trans hi (Nat.le_of_ble_eq_true rfl : 60 ≤ 900))))
            | (go_at_call 26
               (with_reducible refine (d_set (y := y) k on_ oon HD12.out H12.out.st.below0.size HLD.out ht0 rb HRB.out H12.out.st.srt HLE.out).mono ?_)
               rintro e w13 ⟨rfl, HD13, HK13⟩
               have HS13 := Aside0.mk (H12.out.st.kpD HK13.out)
               have HCO13 := Aside0.mk (dtop_keep HK13.out HCO12.out.1)
               have HY2 := Aside0.mk (show _ ∧ _ from ⟨(cells9 HCO13.out).2.2.2.2.2.2.2.1, (cells9 HCO13.out).2.2.2.2.2.2.2.2⟩)))
          have hbb : (rb != rb) = false := by cases rb <;> rfl
          go_wp2_with fail
          go_meet
          exact ⟨_, now, _, _, _, ⟨HS13.out.mono (by omega) (by omega), HD13.out, lkp_set k rb HRB.out HT11.out.c, by have h1 := HT11.out.l; split <;> first | omega | (have := cnt_len k D; omega)⟩, ht0, ht1⟩
        · go_wp2_with fail
          refine (t_tick on_ (by unfold maxLen; omega) _ rfl _ rfl _ rfl HT11.out.s ht0 ht1).mono ?_
          rintro e w12 ⟨rfl, S12, H12⟩
          have HD12 := Aside0.mk (HT11.out.d.post HT11.out.s H12.out)
          have HCO12 := Aside0.mk (H12.out.keep HCO.out HNO.out)
          clear r0 r1 r2 r3 r4 r5 r6 r7 r8
          obtain ⟨r0, r1, r2, r3, r4, r5, r6, r7, r8⟩ := cells9 HCO12.out.1
          go_wp2_with fail
          refine (d_tick on_ HD12.out ht0 ht1 _ rfl (by have h1 := HT11.out.l; have h2 := HT11.out.s.len; omega) H12.out.st.srt H12.out.st.below0.size).mono ?_
          rintro e w13 ⟨rfl, HD13, HK13⟩
          go_wp2_with fail
          go_meet
          exact ⟨_, _, _, _, _, ⟨(H12.out.st.kpD HK13.out).mono (by omega) (by omega), HD13.out, lkp_tk HT11.out.s.srt HT11.out.c, by have h1 := HT11.out.l; have h2 := HT11.out.s.len; have h3 := tickD_len (timeU now on_) E D; omega⟩, (timeU_bd ht0).1, (timeU_bd ht0).2⟩
        · go_wp2_with fail
          refine (t_putn k HKS.out HNC.out noneV rfl _ rfl _ rfl _ _ _ _ _ _ _ _ _ _ HT11.out.s).mono ?_
          rintro e w12 ⟨rfl, S12, H12⟩
          have HD12 := Aside0.mk (HT11.out.d.post HT11.out.s H12.out)
          clear r0 r1 r2 r3 r4 r5 r6 r7 r8
          go_wp2_with fail
          refine (d_put k noneV none none none 0 0 0 0 0 0 ⟨Kd.R_nil _ _ _ _ _, Kd.R_nil _ _ _ _ _, Kd.R_nil _ _ _ _ _⟩ HD12.out H12.out.st.below0.size (Nat.le_trans HT11.out.l (by omega)) _ rfl H12.out.st.srt (Nat.le_trans H12.out.st.len (by omega)) _ rfl).mono ?_
          rintro e w13 ⟨rfl, HD13, HK13⟩
          go_wp2_with fail
          go_meet
          exact ⟨_, now, _, _, _, ⟨(H12.out.st.kpD HK13.out).mono (by omega) (by omega), HD13.out, lkp_put k noneV HT11.out.c, by have h1 := HT11.out.l; split <;> first | omega | (have := cnt_len k D; omega)⟩, ht0, ht1⟩
        · go_wp2_with fail
          obtain ⟨r, hr⟩ : ∃ r, (E.length : Int) - ((purgeE E).length : Int) = r := ⟨_, rfl⟩
          have HR := Aside0.mk hr
          clear hr
          refine (t_purge _ rfl r HR.out (by have h2 := HT11.out.s.len; omega) HT11.out.s).mono ?_
          rintro e w12 ⟨rfl, S12, H12⟩
          have HD12 := Aside0.mk (HT11.out.d.post HT11.out.s H12.out)
          clear r0 r1 r2 r3 r4 r5 r6 r7 r8
          go_wp2_with fail
          refine (d_purge HD12.out r HR.out H12.out.st.below0.size).mono ?_
          rintro e w13 ⟨rfl, HD13, HK13⟩
          have hself : (r != r) = false := by simp
          go_wp2_with fail
          go_meet
          exact ⟨_, now, _, _, _, ⟨(H12.out.st.kpD HK13.out).mono (by omega) (by omega), HD13.out, HT11.out.c, Nat.le_trans HT11.out.l (by omega)⟩, ht0, ht1⟩
        · go_wp2_with fail
          obtain ⟨X, hX⟩ : ∃ X, fndE k (letE k E) = X := ⟨_, rfl⟩
          obtain ⟨dd, hdd⟩ : ∃ d, dueE X = d := ⟨_, rfl⟩
          obtain ⟨oo, hoo⟩ : ∃ o, onE X = o := ⟨_, rfl⟩
          have HX := Aside0.mk hX
          have HDO := Aside0.mk (And.intro hdd hoo)
          clear hX hdd hoo
          refine (t_due k HKS.out dd (by rw [HX.out]; exact HDO.out.1) oo (by rw [HX.out]; exact HDO.out.2) _ rfl HT11.out.s).mono ?_
          rintro e w12 ⟨rfl, S12, H12⟩
          have HD12 := Aside0.mk (HT11.out.d.post HT11.out.s H12.out)
          clear r0 r1 r2 r3 r4 r5 r6 r7 r8
          go_wp2_with fail
          refine (d_due k HD12.out _ rfl).mono ?_
          rw [HX.out, HDO.out.1, HDO.out.2]
          rintro e w13 ⟨rfl, HD13, HK13⟩
          have hdd1 : (dd != dd) = false := by simp
          have hoo1 : (oo != oo) = false := by cases oo <;> rfl
          go_wp2_with fail
          go_meet
          exact ⟨_, now, _, _, _, ⟨(H12.out.st.kpD HK13.out).mono (by omega) (by omega), HD13.out, HT11.out.c, Nat.le_trans HT11.out.l (by omega)⟩, ht0, ht1⟩
      case rest =>
        clear HT11 HCO HNO HVO r0 r1 r2 r3 r4 r5 r6 r7 r8
        obtain ⟨S', now', E', C', D', hduo, ht0', ht1'⟩ := hcut
        have HT := Aside0.mk hduo
        clear hduo
        obtain ⟨kl, hkl⟩ : ∃ kl, keysE E' = kl := ⟨_, rfl⟩
        obtain ⟨q, hq⟩ : ∃ q, kl.length = q := ⟨_, rfl⟩
        obtain ⟨m, hm⟩ : ∃ m, E'.length = m := ⟨_, rfl⟩
        have HKL := Aside0.mk hkl
        have HQ := Aside0.mk hq
        have HM := Aside0.mk hm
        have HQM := Aside0.mk (show q ≤ 1000000 by rw [← hq, ← hkl, keys_len]; have h1 := HT.out.s.len; have h2 := purge_len (E := E'); omega)
        clear hkl hq hm
        go_wp2_with fail
        refine (t_keys kl HKL.out q HQ.out (by omega) HT.out.s).mono ?_
        rintro e w21 ⟨B, b_, rfl, HB21, HC21, HS21, HBB21⟩
        have HT21 := Aside0.mk (HT.out.below HBB21.out)
        go_wp2_with fail
        refine (d_keys HT21.out.d kl HKL.out q HQ.out).mono ?_
        rintro e w22 ⟨B', b_', rfl, HB22, HC22, HBB22⟩
        have HT22 := Aside0.mk (HT21.out.below HBB22.out)
        go_wp2_with fail
        refine (texts_same B B' b_ b_' kl q q HQ.out HQ.out _ (Kd.C_below HC21.out HBB22.out) HB21.out HC22.out HB22.out HQM.out).mono ?_
        rintro e w23 ⟨rfl, HBB23⟩
        have HT23 := Aside0.mk (HT22.out.below HBB23.out)
        obtain ⟨A9, c9, vC9, htop⟩ : ∃ A9 c9 vC9, w23.heap[y]? = some (.cells #[.slice A9 m c9, vC9, .int .i64 now'] 56 (0, 0)) := by
          obtain ⟨⟨vL, vC, Z, hat⟩, _⟩ := HT23.out.d
          obtain ⟨A9, c9, rfl, _⟩ := Kd.R_reads hat.ents
          exact ⟨A9, c9, vC, by have := hat.top; rw [hat.len, HM.out] at this; exact this⟩
        have z0 : w23.cell? ⟨y, 0, none⟩ = some (.slice A9 m c9) := by simp [World.cell?, htop]
        have z2 : w23.cell? ⟨y, 2, none⟩ = some (.int .i64 now') := by simp [World.cell?, htop]
        clear htop
        have HT24 := Aside0.mk HT23.out.drew
        obtain ⟨vk, hvk⟩ : ∃ v, C' k = v := ⟨_, rfl⟩
        have HVK := Aside0.mk hvk
        clear hvk
        have hmm : ((m : Int) != (m : Int)) = false := by simp
        have hnn : (now' != now') = false := by simp
        have hvv : (vk != vk) = false := by simp
        go_wp2_with fail
        go_region_held3 (fun wz => wz.cell? ⟨y, 0, none⟩ = some (.slice A9 m c9) ∧ wz.cell? ⟨y, 2, none⟩ = some (.int .i64 now')) (first | exact ⟨z0, z2⟩) (first
          | (go_at_call 33
             (with_reducible refine (s_held (g := g) HT24.out.s).mono ?_)
             rintro e w24 ⟨rfl, hw24⟩
             subst hw24
             rw [HM.out])
          | (go_at_call 20
             (with_reducible refine (s_now (g := g) HT24.out.s).mono ?_)
             rintro e w25 ⟨rfl, hw25⟩
             subst hw25)
          | (go_at_call 17
             (with_reducible refine (s_version (g := g) k HKS.out HT24.out.s).mono ?_)
             rintro e w26 ⟨rfl, hw26⟩
             subst hw26
             rw [HVK.out])
          | (go_at_call 34
             (with_reducible refine (d_version (y := y) k HT24.out.d).mono ?_)
             rintro e w27 ⟨rfl, hw27⟩
             subst hw27
             rw [HT24.out.c, HVK.out]))
        go_wp2_with fail
        have HFIN := Aside0.mk (show PAll w w23.drew g me mc y (i + 1) (70 * (i + 1)) from ⟨_, now', _, C', _, HT24.out.mono (by omega) (by omega), ht0', ht1'⟩)
        go_wp2
        go_roundw
        case rel => exact ⟨i + 1, by simp, by omega, by omega, HFIN⟩
        case measure => simp; omega
    · have hcs : ¬ ((i : Int) < l.length) ∨ ((i : Int) < l.length ∧ ¬ ((i : Int) < 60)) := by omega
      rcases hcs with hc9 | ⟨hc8, hc9⟩
      · go_wp2
        go_ret
        exact ⟨rfl, HT.out.s.below0⟩
      · go_wp2
        go_ret
        exact ⟨rfl, HT.out.s.below0⟩
end Go.Proofs.Ytmhdkjihhdljlaa.X
namespace Go.Proofs.Ytmhdkjihhdljlaa.X
open Go.RowKit Go.Proofs.YtmhdkjihhdljlaaW.PrintWords Go.Proofs.Ytmhdkjihhdljlaa
theorem storePlays_row (w : World) (x : List Op10) (A1 : Option Addr) (n1 c1 : Nat) (kx : Os'.K w x [.slice A1 n1 c1]) (okx : x.length ≤ maxLen ∧ ∀ o ∈ x, OpOk o) :
    Calls Try.prog 7 #[.slice A1 n1 c1] w fun e w' => e = .returned (.bool true) ∧ Below w.heap.size w w' := by
  obtain ⟨rfl, h1, h2⟩ := ops_open kx
  exact StorePlays_walk A1 x c1 w h2 h1 okx.2
end Go.Proofs.Ytmhdkjihhdljlaa.X
