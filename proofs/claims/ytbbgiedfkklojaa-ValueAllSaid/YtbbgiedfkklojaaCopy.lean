/- Copies of rows of whatever elements that hold no rows of their own: 'make and copy' as steps of a walk. -/
import Derived.Test.YtbbgiedfkklojaaWMore
import Derived.WalkKit
import Derived.Outline
import Derived.Laws.CopyOwn
set_option linter.unusedVariables false
set_option linter.unusedSimpArgs false
namespace Go.Proofs.Ytbbgiedfkklojaa.X
open Go.RowKit Go.Lib Go.Proofs.YtbbgiedfkklojaaW.PrintWords

/-- What is read of an element is all there is: it has no rows of its own. -/
def Flat {α : Type} (d : Kd α) : Prop := ∀ (w : World) (base : Nat) (ok : Nat → Prop) (x : α) (cs : List Value), d.K w x cs → d.M w base ok x cs

theorem flat_string : Flat Kd.string := fun _ _ _ _ _ h => h
theorem flat_int (k : IntKind) : Flat (Kd.int k) := fun _ _ _ _ _ h => h

/-- The cells of a row that is read, laid end to end. -/
theorem cells_of {α : Type} {K : α → List Value → Prop} {sz : Nat} {w : World} {ad : Addr} : ∀ (m : Nat) (l : List α), l.length = m →
    (∀ j p, l[j]? = some p → ∃ c, c.length = sz ∧ K p c ∧ ∀ i u, c[i]? = some u → w.cell? (ad.add (j * sz + i)) = some u) →
    ∃ cs, Reps K sz l cs ∧ ∀ j v, cs[j]? = some v → w.cell? (ad.add j) = some v := by
  intro m
  induction m with
  | zero =>
    intro l hl _
    obtain rfl := List.eq_nil_of_length_eq_zero hl
    exact ⟨[], Reps.none _ _, fun j v h => by simp at h⟩
  | succ m ih =>
    intro l hl h
    rcases List.eq_nil_or_concat l with rfl | ⟨L, p, rfl⟩
    · simp at hl
    · rw [List.concat_eq_append] at hl h ⊢
      have hL : L.length = m := by simpa using hl
      obtain ⟨cs, hr, hc⟩ := ih L hL (fun j q hj => h j q (by rw [List.getElem?_append_left (List.getElem?_eq_some_iff.1 hj).1]; exact hj))
      obtain ⟨c, h1, h2, h3⟩ := h m p (by rw [List.getElem?_append_right (by omega), hL]; simp)
      refine ⟨cs ++ c, hr.snoc h2 h1, fun j v hv => ?_⟩
      rcases Nat.lt_or_ge j cs.length with hj | hj
      · rw [List.getElem?_append_left hj] at hv
        exact hc j v hv
      · rw [List.getElem?_append_right hj] at hv
        have := h3 _ v hv
        rwa [← hL, ← hr.1, show cs.length + (j - cs.length) = j by omega] at this

theorem copy_rowN {P : Program} (w : World) (dT sT ty elem : TypeId) (g dLen dCap : Nat) (a : Addr) (sLen sCap sz : Nat) (cur : Array Value) (t : TypeId) (cs : List Value)
    (hu : P.underlying dT = some (.slice elem)) (hs : (P.info? elem).map (·.size) = some sz)
    (hg : w.heap[g]? = some (.cells cur t (0, 0))) (hn : cs.length = Nat.min sLen dLen * sz)
    (hsrc : ∀ j v, cs[j]? = some v → w.cell? (a.add j) = some v) (hfit : cs.length ≤ cur.size) (h1 : ∀ v ∈ cs, v.oneCell' = true) :
    (Builtin.copy_ #[dT, sT] ty #[.slice (some ⟨g, 0, none⟩) dLen dCap, .slice (some a) sLen sCap]).run P w =
      .ok (goInt (Nat.min sLen dLen)) (w.setRow g (cs ++ cur.toList.drop cs.length).toArray) := by
  have hl := run_loadCells_list (P := P) w a cs hsrc
  have hst := run_storeCells_at P g 0 t cs 0 cur w hg (by simpa using hfit) h1
  cases hq : P.info? elem with
  | none => simp [hq] at hs
  | some i =>
    have hi : i.size = sz := by simpa [hq] using hs
    simp [Builtin.copy_, run_underlying hu, Builtin.lenOf, Builtin.firstCells, sizeOf, typeInfo, hq, hi, ← hn, hl, hst]

theorem copy_noneN {P : Program} (w : World) (dT sT ty elem : TypeId) (d a : Option Addr) (dLen dCap sLen sCap sz : Nat) (hu : P.underlying dT = some (.slice elem)) (hs : (P.info? elem).map (·.size) = some sz) (hn : Nat.min sLen dLen = 0) :
    (Builtin.copy_ #[dT, sT] ty #[.slice d dLen dCap, .slice a sLen sCap]).run P w = .ok (goInt 0) w := by
  cases hq : P.info? elem with
  | none => simp [hq] at hs
  | some i =>
    have hl : ∀ (x : Addr), (loadCells x 0).run P w = .ok #[] w := fun x => by simpa using run_loadCells_list (P := P) w x [] (by simp)
    cases d <;> cases a <;> simp [Builtin.copy_, run_underlying hu, Builtin.lenOf, Builtin.firstCells, sizeOf, typeInfo, hq, hn, storeCells, hl]

/-- A row of one's own, filled anew. -/
theorem R_fill {α : Type} {d : Kd α} {e base g n c : Nat} {ok : Nat → Prop} {w : World} {xs ys : List α} {cur : Array Value} (h : d.R e w base ok (.slice (some ⟨g, 0, none⟩) n c) xs) (hcur : w.heap[g]? = some (.cells cur e (0, 0)))
    (cs : List Value) (hys : ys.length = n) (hr : Reps (d.M (w.setRow g (cs ++ cur.toList.drop cs.length).toArray) base (fun k => ok k ∧ some k ≠ (Value.slice (some ⟨g, 0, none⟩) n c).ownBlock)) d.sz ys cs) :
    d.R e (w.setRow g (cs ++ cur.toList.drop cs.length).toArray) base ok (.slice (some ⟨g, 0, none⟩) n c) ys := by
  obtain ⟨h0, inner, ho, _⟩ := h
  refine ⟨h0, cs, ⟨hr.1, .inr ?_⟩, hr⟩
  rcases ho.2 with ⟨e1, _⟩ | ⟨g', cap, cur', e1, hb, hg, hn, hm, hsz, ht⟩
  · cases e1
  · injection e1 with e1 e2 e3
    injection e1 with e1
    injection e1 with e1
    subst e1 e3
    rw [hcur] at hg
    injection hg with hg
    injection hg with hg
    subst hg
    have hl := hr.1
    have hle : cs.length ≤ cur.size := by rw [hl, hsz, hys, e2]; exact Nat.mul_le_mul_right _ hn
    refine ⟨g, c, _, by rw [hys], hb, setRow_heap w g cur _ e (0, 0) hcur, by omega, hm, ?_, ?_⟩
    · simp
      rw [hsz] at hle ⊢
      omega
    · simp [← hl]

theorem run_copy_flat {P : Program} {w w0 : World} {α : Type} (dT sT ty : TypeId) (d : Kd α) (hF : Flat d) (e base : Nat) {ok : Nat → Prop} (hu : P.underlying dT = some (.slice e)) (hsz : (P.info? e).map (·.size) = some d.sz)
    (v : Value) (A : Option Addr) (c : Nat) (l zs : List α) (HR : d.R e w base ok v zs) (hl : zs.length = l.length) (HC : d.C w A l.length l) (HB : Below base w0 w) :
    ∃ w1, (Builtin.copy_ #[dT, sT] ty #[v, .slice A l.length c]).run P w = .ok (goInt l.length) w1 ∧ d.R e w1 base ok v l ∧ Below base w0 w1 := by
  obtain ⟨A1, c1, rfl⟩ := Kd.R_slice HR
  by_cases h0 : l.length = 0
  · have hrun := copy_noneN (P := P) w dT sT ty e A1 A zs.length c1 l.length c d.sz hu hsz (by rw [h0]; exact Nat.zero_min _)
    have hl0 : l = [] := List.eq_nil_of_length_eq_zero h0
    have hz0 : zs = [] := List.eq_nil_of_length_eq_zero (by omega)
    subst hl0 hz0
    exact ⟨w, hrun, HR, HB⟩
  · obtain ⟨_, _, hC0⟩ := HC
    obtain ⟨ad, rfl, hC⟩ := hC0 (by omega)
    clear hC0
    obtain ⟨cs, hr, hcs⟩ := cells_of (K := d.K w) (sz := d.sz) (w := w) (ad := ad) l.length l rfl hC
    obtain ⟨g, rfl, cur, hcur, hbg, hfit⟩ : ∃ g, A1 = some ⟨g, 0, none⟩ ∧ ∃ cur, w.heap[g]? = some (.cells cur e (0, 0)) ∧ base ≤ g ∧ cs.length ≤ cur.size := by
      obtain ⟨_, inner, ho, _⟩ := HR
      rcases ho.2 with ⟨e1, _⟩ | ⟨g', cap, cur', e1, hb, hg, hn, hm, hsz, ht⟩
      · injection e1 with e1 e2 e3
        omega
      · injection e1 with e1 e2 e3
        refine ⟨g', e1, cur', hg, hb, ?_⟩
        rw [hr.1, hsz, ← hl]
        exact Nat.mul_le_mul_right _ (by omega)
    have hone : ∀ v ∈ cs, v.oneCell' = true := by
      intro v hv
      obtain ⟨j, hj, hjv⟩ := List.getElem_of_mem hv
      have hlen := hr.1
      have hsz0 : 0 < d.sz := by
        rcases Nat.eq_zero_or_pos d.sz with h | h
        · rw [hlen, h] at hj; omega
        · exact h
      have hq : j / d.sz < l.length := by rw [Nat.div_lt_iff_lt_mul hsz0, ← hlen]; exact hj
      refine d.K_one (hr.2 (j / d.sz) _ (List.getElem?_eq_getElem hq)) v (List.mem_of_getElem? (i := j % d.sz) ?_)
      rw [List.getElem?_take_of_lt (Nat.mod_lt _ hsz0), List.getElem?_drop, Nat.div_add_mod' j d.sz, List.getElem?_eq_getElem hj, hjv]
    have hrun := copy_rowN (P := P) w dT sT ty e g zs.length c1 ad l.length c d.sz cur e cs hu hsz hcur (by rw [hr.1, hl]; simp) hcs hfit hone
    rw [show Nat.min l.length zs.length = l.length by rw [hl]; exact Nat.min_self _] at hrun
    have hB2 : Below base w0 (w.setRow g (cs ++ cur.toList.drop cs.length).toArray) := below_setRow HB hbg _
    refine ⟨_, hrun, R_fill HR hcur cs hl.symm ⟨hr.1, fun j p hj => d.M_mono (fun _ h => h.elim) (d.M_move (fun _ h => h.elim) (hF w base (fun _ => False) _ _ (hr.2 j p hj)))⟩, hB2⟩
end Go.Proofs.Ytbbgiedfkklojaa.X
