/- What value.own gives, in the printed shape, and value.Type. -/
import Derived.Test.YtmhdkjihhdljlaaWMore
import Derived.WalkKit
import Derived.Outline
import Derived.Laws.CopyOwn
import Derived.Test.YtmhdkjihhdljlaaRows
import Derived.Test.YtmhdkjihhdljlaaXx0
set_option linter.unusedVariables false
set_option linter.unusedSimpArgs false
namespace Go.Proofs.Ytmhdkjihhdljlaa.X
open Go.RowKit Go.Lib Go.Proofs.YtmhdkjihhdljlaaW.PrintWords

/-- What is read of an element is all there is: it has no rows of its own. -/
def Flat {α : Type} (d : Kd α) : Prop := ∀ (w : World) (base : Nat) (ok : Nat → Prop) (x : α) (cs : List Value), d.K w x cs → d.M w base ok x cs

theorem flat_string : Flat Kd.string := fun _ _ _ _ _ h => h
theorem flat_int (k : IntKind) : Flat (Kd.int k) := fun _ _ _ _ _ h => h

/-- The cells of a row that is read, laid end to end. -/
theorem cells_of {α : Type} {K : α → List Value → Prop} {sz : Nat} {w : World} {ad : Addr} : ∀ (m : Nat) (l : List α), l.length = m →
    (∀ j p, l[j]? = some p → ∃ c, c.length = sz ∧ K p c ∧ ∀ i u, c[i]? = some u → w.cell? (ad.add (j * sz + i)) = some u) →
    ∃ cs, Reps K sz l cs ∧ ∀ j v, cs[j]? = some v → w.cell? (ad.add j) = some v := by
  intro m
  induction m with
  | zero =>
    intro l hl _
    obtain rfl := List.eq_nil_of_length_eq_zero hl
    exact ⟨[], Reps.none _ _, fun j v h => by simp at h⟩
  | succ m ih =>
    intro l hl h
    rcases List.eq_nil_or_concat l with rfl | ⟨L, p, rfl⟩
    · simp at hl
    · rw [List.concat_eq_append] at hl h ⊢
      have hL : L.length = m := by simpa using hl
      obtain ⟨cs, hr, hc⟩ := ih L hL (fun j q hj => h j q (by rw [List.getElem?_append_left (List.getElem?_eq_some_iff.1 hj).1]; exact hj))
      obtain ⟨c, h1, h2, h3⟩ := h m p (by rw [List.getElem?_append_right (by omega), hL]; simp)
      refine ⟨cs ++ c, hr.snoc h2 h1, fun j v hv => ?_⟩
      rcases Nat.lt_or_ge j cs.length with hj | hj
      · rw [List.getElem?_append_left hj] at hv
        exact hc j v hv
      · rw [List.getElem?_append_right hj] at hv
        have := h3 _ v hv
        rwa [← hL, ← hr.1, show cs.length + (j - cs.length) = j by omega] at this

theorem copy_rowN {P : Program} (w : World) (dT sT ty elem : TypeId) (g dLen dCap : Nat) (a : Addr) (sLen sCap sz : Nat) (cur : Array Value) (t : TypeId) (cs : List Value)
    (hu : P.underlying dT = some (.slice elem)) (hs : (P.info? elem).map (·.size) = some sz)
    (hg : w.heap[g]? = some (.cells cur t (0, 0))) (hn : cs.length = Nat.min sLen dLen * sz)
    (hsrc : ∀ j v, cs[j]? = some v → w.cell? (a.add j) = some v) (hfit : cs.length ≤ cur.size) (h1 : ∀ v ∈ cs, v.oneCell' = true) :
    (Builtin.copy_ #[dT, sT] ty #[.slice (some ⟨g, 0, none⟩) dLen dCap, .slice (some a) sLen sCap]).run P w =
      .ok (goInt (Nat.min sLen dLen)) (w.setRow g (cs ++ cur.toList.drop cs.length).toArray) := by
  have hl := run_loadCells_list (P := P) w a cs hsrc
  have hst := run_storeCells_at P g 0 t cs 0 cur w hg (by simpa using hfit) h1
  cases hq : P.info? elem with
  | none => simp [hq] at hs
  | some i =>
    have hi : i.size = sz := by simpa [hq] using hs
    simp [Builtin.copy_, run_underlying hu, Builtin.lenOf, Builtin.firstCells, sizeOf, typeInfo, hq, hi, ← hn, hl, hst]

theorem copy_noneN {P : Program} (w : World) (dT sT ty elem : TypeId) (d a : Option Addr) (dLen dCap sLen sCap sz : Nat) (hu : P.underlying dT = some (.slice elem)) (hs : (P.info? elem).map (·.size) = some sz) (hn : Nat.min sLen dLen = 0) :
    (Builtin.copy_ #[dT, sT] ty #[.slice d dLen dCap, .slice a sLen sCap]).run P w = .ok (goInt 0) w := by
  cases hq : P.info? elem with
  | none => simp [hq] at hs
  | some i =>
    have hl : ∀ (x : Addr), (loadCells x 0).run P w = .ok #[] w := fun x => by simpa using run_loadCells_list (P := P) w x [] (by simp)
    cases d <;> cases a <;> simp [Builtin.copy_, run_underlying hu, Builtin.lenOf, Builtin.firstCells, sizeOf, typeInfo, hq, hn, storeCells, hl]

/-- A row of one's own, filled anew. -/
theorem R_fill {α : Type} {d : Kd α} {e base g n c : Nat} {ok : Nat → Prop} {w : World} {xs ys : List α} {cur : Array Value} (h : d.R e w base ok (.slice (some ⟨g, 0, none⟩) n c) xs) (hcur : w.heap[g]? = some (.cells cur e (0, 0)))
    (cs : List Value) (hys : ys.length = n) (hr : Reps (d.M (w.setRow g (cs ++ cur.toList.drop cs.length).toArray) base (fun k => ok k ∧ some k ≠ (Value.slice (some ⟨g, 0, none⟩) n c).ownBlock)) d.sz ys cs) :
    d.R e (w.setRow g (cs ++ cur.toList.drop cs.length).toArray) base ok (.slice (some ⟨g, 0, none⟩) n c) ys := by
  obtain ⟨h0, inner, ho, _⟩ := h
  refine ⟨h0, cs, ⟨hr.1, .inr ?_⟩, hr⟩
  rcases ho.2 with ⟨e1, _⟩ | ⟨g', cap, cur', e1, hb, hg, hn, hm, hsz, ht⟩
  · cases e1
  · injection e1 with e1 e2 e3
    injection e1 with e1
    injection e1 with e1
    subst e1 e3
    rw [hcur] at hg
    injection hg with hg
    injection hg with hg
    subst hg
    have hl := hr.1
    have hle : cs.length ≤ cur.size := by rw [hl, hsz, hys, e2]; exact Nat.mul_le_mul_right _ hn
    refine ⟨g, c, _, by rw [hys], hb, setRow_heap w g cur _ e (0, 0) hcur, by omega, hm, ?_, ?_⟩
    · simp
      rw [hsz] at hle ⊢
      omega
    · simp [← hl]

theorem run_copy_flat {P : Program} {w w0 : World} {α : Type} (dT sT ty : TypeId) (d : Kd α) (hF : Flat d) (e base : Nat) {ok : Nat → Prop} (hu : P.underlying dT = some (.slice e)) (hsz : (P.info? e).map (·.size) = some d.sz)
    (v : Value) (A : Option Addr) (c : Nat) (l zs : List α) (HR : d.R e w base ok v zs) (hl : zs.length = l.length) (HC : d.C w A l.length l) (HB : Below base w0 w) :
    ∃ w1, (Builtin.copy_ #[dT, sT] ty #[v, .slice A l.length c]).run P w = .ok (goInt l.length) w1 ∧ d.R e w1 base ok v l ∧ Below base w0 w1 := by
  obtain ⟨A1, c1, rfl⟩ := Kd.R_slice HR
  by_cases h0 : l.length = 0
  · have hrun := copy_noneN (P := P) w dT sT ty e A1 A zs.length c1 l.length c d.sz hu hsz (by rw [h0]; exact Nat.zero_min _)
    have hl0 : l = [] := List.eq_nil_of_length_eq_zero h0
    have hz0 : zs = [] := List.eq_nil_of_length_eq_zero (by omega)
    subst hl0 hz0
    exact ⟨w, hrun, HR, HB⟩
  · obtain ⟨_, _, hC0⟩ := HC
    obtain ⟨ad, rfl, hC⟩ := hC0 (by omega)
    clear hC0
    obtain ⟨cs, hr, hcs⟩ := cells_of (K := d.K w) (sz := d.sz) (w := w) (ad := ad) l.length l rfl hC
    obtain ⟨g, rfl, cur, hcur, hbg, hfit⟩ : ∃ g, A1 = some ⟨g, 0, none⟩ ∧ ∃ cur, w.heap[g]? = some (.cells cur e (0, 0)) ∧ base ≤ g ∧ cs.length ≤ cur.size := by
      obtain ⟨_, inner, ho, _⟩ := HR
      rcases ho.2 with ⟨e1, _⟩ | ⟨g', cap, cur', e1, hb, hg, hn, hm, hsz, ht⟩
      · injection e1 with e1 e2 e3
        omega
      · injection e1 with e1 e2 e3
        refine ⟨g', e1, cur', hg, hb, ?_⟩
        rw [hr.1, hsz, ← hl]
        exact Nat.mul_le_mul_right _ (by omega)
    have hone : ∀ v ∈ cs, v.oneCell' = true := by
      intro v hv
      obtain ⟨j, hj, hjv⟩ := List.getElem_of_mem hv
      have hlen := hr.1
      have hsz0 : 0 < d.sz := by
        rcases Nat.eq_zero_or_pos d.sz with h | h
        · rw [hlen, h] at hj; omega
        · exact h
      have hq : j / d.sz < l.length := by rw [Nat.div_lt_iff_lt_mul hsz0, ← hlen]; exact hj
      refine d.K_one (hr.2 (j / d.sz) _ (List.getElem?_eq_getElem hq)) v (List.mem_of_getElem? (i := j % d.sz) ?_)
      rw [List.getElem?_take_of_lt (Nat.mod_lt _ hsz0), List.getElem?_drop, Nat.div_add_mod' j d.sz, List.getElem?_eq_getElem hj, hjv]
    have hrun := copy_rowN (P := P) w dT sT ty e g zs.length c1 ad l.length c d.sz cur e cs hu hsz hcur (by rw [hr.1, hl]; simp) hcs hfit hone
    rw [show Nat.min l.length zs.length = l.length by rw [hl]; exact Nat.min_self _] at hrun
    have hB2 : Below base w0 (w.setRow g (cs ++ cur.toList.drop cs.length).toArray) := below_setRow HB hbg _
    refine ⟨_, hrun, R_fill HR hcur cs hl.symm ⟨hr.1, fun j p hj => d.M_mono (fun _ h => h.elim) (d.M_move (fun _ h => h.elim) (hF w base (fun _ => False) _ _ (hr.2 j p hj)))⟩, hB2⟩
end Go.Proofs.Ytmhdkjihhdljlaa.X
namespace Go.Proofs.Ytmhdkjihhdljlaa.X
open Go.RowKit Go.Lib Go.Proofs.YtmhdkjihhdljlaaW.PrintWords

theorem infoStr : (Try.prog.info? 9).map (fun i => (i.zero, i.size, i.bytes)) = some (some (.string ⟨#[]⟩), 1, 16) := by kernel_rfl
theorem sizeStr : (Try.prog.info? 9).map (·.size) = some 1 := by kernel_rfl

def value_own_string.f (l0 : List ByteArray) : Option (List ByteArray) := if l0.length ≤ 1000000 then some l0 else none

set_option maxHeartbeats 1000000 in
set_option maxRecDepth 100000 in
theorem value_own_string.calls (A0 : Option Addr) (c0 : Nat) (l0 : List ByteArray) (r : List ByteArray) (w : World) (hr0 : Kd.C Kd.string w A0 l0.length l0) (hc0 : l0.length ≤ c0) (h : value_own_string.f l0 = some r) :
    Calls Try.prog 49 #[.slice A0 l0.length c0] w fun e w' => ∃ v0_ : Value, e = .returned v0_ ∧ Kd.R Kd.string 9 w' w.heap.size (fun _ => True) v0_ r ∧ Below w.heap.size w w' := by
  unfold value_own_string.f at h
  by_cases hl : l0.length ≤ 1000000
  case neg => rw [if_neg hl] at h; cases h
  rw [if_pos hl] at h
  injection h with h
  subst h
  have HC := Aside0.mk hr0
  clear hr0
  go_enter Try.func49, Try.ntmps49
  go_wp2_with (first | (at_make; refine Kd.R_make Kd.string (w0 := w) w.heap.size 9 rfl rfl 22 _ _ rfl (l0.length : Int) rfl rfl Try.underlying22 (.string ⟨#[]⟩) 16 infoStr rfl (by decide) (by decide) (⟨#[]⟩ : ByteArray) (ok := fun _ => True) (okp := fun _ => False) rfl (fun _ h => h.elim) trivial (by omega) ?_ (Below.refl _ _) (Nat.le_refl _) ?_))
  · omega
  intro v1 w1 hr hb hg b hb1 hb2
  try simp only [Int.toNat_natCast] at hr
  have HR := Aside0.mk hr
  have HB := Aside0.mk hb
  clear hr hb hg hb1 hb2 b
  obtain ⟨w2, hrun, hr2, hb2⟩ := run_copy_flat (P := Try.prog) (w0 := w) 22 22 3 Kd.string flat_string 9 w.heap.size Try.underlying22 sizeStr v1 A0 c0 l0 _ HR.out (by simp) (Kd.C_below HC.out HB.out) HB.out
  have HR2 := Aside0.mk hr2
  have HB2 := Aside0.mk hb2
  clear hr2 hb2
  go_wp2
  go_ret
  exact ⟨_, rfl, HR2.out, HB2.out⟩

theorem infoPair : (Try.prog.info? 66).map (fun i => (i.zero, i.size, i.bytes)) = some (some (.agg #[.string ⟨#[]⟩, .string ⟨#[]⟩]), 2, 32) := by kernel_rfl
theorem sizePair : (Try.prog.info? 66).map (·.size) = some 2 := by kernel_rfl

def api_Pair_50.f {α : Type} (l0 : List α) : Option (List α) := if l0.length ≤ 1000000 then some l0 else none

set_option maxHeartbeats 1000000 in
set_option maxRecDepth 100000 in
/-- For whatever reader of such elements that holds no rows ('k..' of a printed text). -/
theorem api_Pair_50.calls_ {α : Type} {d : Kd α} (A0 : Option Addr) (c0 : Nat) (l0 : List α) (r : List α) (w : World) (hr0 : Kd.C d w A0 l0.length l0) (hc0 : l0.length ≤ c0) (h : api_Pair_50.f l0 = some r)
    (hF : Flat d := by with_unfolding_all exact fun _ _ _ _ _ h => h) (hs : d.sz = 2 := by with_unfolding_all rfl) (hz : ∃ z0 : α, ∀ (w : World) (base : Nat) (ok : Nat → Prop), d.M w base ok z0 [.string ⟨#[]⟩, .string ⟨#[]⟩] := by with_unfolding_all exact ⟨⟨⟨#[]⟩, ⟨#[]⟩⟩, fun _ _ _ => ⟨_, _, rfl, rfl, rfl⟩⟩) :
    Calls Try.prog 50 #[.slice A0 l0.length c0] w fun e w' => ∃ v0_ : Value, e = .returned v0_ ∧ Kd.R d 66 w' w.heap.size (fun _ => True) v0_ r ∧ Below w.heap.size w w' := by
  unfold api_Pair_50.f at h
  by_cases hl : l0.length ≤ 1000000
  case neg => rw [if_neg hl] at h; cases h
  rw [if_pos hl] at h
  injection h with h
  subst h
  have HC := Aside0.mk hr0
  clear hr0
  obtain ⟨z0, hz⟩ := hz
  have HS := Aside0.mk hs
  have HZ := Aside0.mk hz
  have HF := Aside0.mk hF
  clear hs hz hF
  go_enter Try.func50, Try.ntmps50
  go_wp2_with (first | (at_make; refine Kd.R_make d (w0 := w) w.heap.size 66 rfl rfl 23 _ _ rfl (l0.length : Int) rfl rfl Try.underlying23 (.agg #[.string ⟨#[]⟩, .string ⟨#[]⟩]) 32 (by rw [HS.out]; exact infoPair) (by rw [HS.out]; rfl) (by rw [HS.out]; decide) (by decide) z0 (ok := fun _ => True) (okp := fun _ => False) (HZ.out _ _ _) (fun _ h => h.elim) trivial (by omega) ?_ (Below.refl _ _) (Nat.le_refl _) ?_))
  · omega
  intro v1 w1 hr hb hg b hb1 hb2
  try simp only [Int.toNat_natCast] at hr
  have HR := Aside0.mk hr
  have HB := Aside0.mk hb
  clear hr hb hg hb1 hb2 b
  obtain ⟨w2, hrun, hr2, hb2⟩ := run_copy_flat (P := Try.prog) (w0 := w) 23 23 3 d HF.out 66 w.heap.size Try.underlying23 (by rw [HS.out]; exact sizePair) v1 A0 c0 l0 _ HR.out (by simp) (Kd.C_below HC.out HB.out) HB.out
  have HR2 := Aside0.mk hr2
  have HB2 := Aside0.mk hb2
  clear hr2 hb2
  go_wp2
  go_ret
  exact ⟨_, rfl, HR2.out, HB2.out⟩

theorem infoMark : (Try.prog.info? 69).map (fun i => (i.zero, i.size, i.bytes)) = some (some (.agg #[.string ⟨#[]⟩, .int .i64 0]), 2, 24) := by kernel_rfl
theorem sizeMark : (Try.prog.info? 69).map (·.size) = some 2 := by kernel_rfl

def api_Mark_51.f {α : Type} (l0 : List α) : Option (List α) := if l0.length ≤ 1000000 then some l0 else none

set_option maxHeartbeats 1000000 in
set_option maxRecDepth 100000 in
/-- For whatever reader of such elements that holds no rows ('k..' of a printed text). -/
theorem api_Mark_51.calls_ {α : Type} {d : Kd α} (A0 : Option Addr) (c0 : Nat) (l0 : List α) (r : List α) (w : World) (hr0 : Kd.C d w A0 l0.length l0) (hc0 : l0.length ≤ c0) (h : api_Mark_51.f l0 = some r)
    (hF : Flat d := by with_unfolding_all exact fun _ _ _ _ _ h => h) (hs : d.sz = 2 := by with_unfolding_all rfl) (hz : ∃ z0 : α, ∀ (w : World) (base : Nat) (ok : Nat → Prop), d.M w base ok z0 [.string ⟨#[]⟩, .int .i64 0] := by with_unfolding_all exact ⟨⟨⟨#[]⟩, 0⟩, fun _ _ _ => ⟨_, _, rfl, rfl, rfl⟩⟩) :
    Calls Try.prog 51 #[.slice A0 l0.length c0] w fun e w' => ∃ v0_ : Value, e = .returned v0_ ∧ Kd.R d 69 w' w.heap.size (fun _ => True) v0_ r ∧ Below w.heap.size w w' := by
  unfold api_Mark_51.f at h
  by_cases hl : l0.length ≤ 1000000
  case neg => rw [if_neg hl] at h; cases h
  rw [if_pos hl] at h
  injection h with h
  subst h
  have HC := Aside0.mk hr0
  clear hr0
  obtain ⟨z0, hz⟩ := hz
  have HS := Aside0.mk hs
  have HZ := Aside0.mk hz
  have HF := Aside0.mk hF
  clear hs hz hF
  go_enter Try.func51, Try.ntmps51
  go_wp2_with (first | (at_make; refine Kd.R_make d (w0 := w) w.heap.size 69 rfl rfl 24 _ _ rfl (l0.length : Int) rfl rfl Try.underlying24 (.agg #[.string ⟨#[]⟩, .int .i64 0]) 24 (by rw [HS.out]; exact infoMark) (by rw [HS.out]; rfl) (by rw [HS.out]; decide) (by decide) z0 (ok := fun _ => True) (okp := fun _ => False) (HZ.out _ _ _) (fun _ h => h.elim) trivial (by omega) ?_ (Below.refl _ _) (Nat.le_refl _) ?_))
  · omega
  intro v1 w1 hr hb hg b hb1 hb2
  try simp only [Int.toNat_natCast] at hr
  have HR := Aside0.mk hr
  have HB := Aside0.mk hb
  clear hr hb hg hb1 hb2 b
  obtain ⟨w2, hrun, hr2, hb2⟩ := run_copy_flat (P := Try.prog) (w0 := w) 24 24 3 d HF.out 69 w.heap.size Try.underlying24 (by rw [HS.out]; exact sizeMark) v1 A0 c0 l0 _ HR.out (by simp) (Kd.C_below HC.out HB.out) HB.out
  have HR2 := Aside0.mk hr2
  have HB2 := Aside0.mk hb2
  clear hr2 hb2
  go_wp2
  go_ret
  exact ⟨_, rfl, HR2.out, HB2.out⟩

theorem api_Pair_50.calls (A0 : Option Addr) (c0 : Nat) (l0 : List S66) (r : List S66) (w : World) (hr0 : Kd.C k66 w A0 l0.length l0) (hc0 : l0.length ≤ c0) (h : api_Pair_50.f l0 = some r) :
    Calls Try.prog 50 #[.slice A0 l0.length c0] w fun e w' => ∃ v0_ : Value, e = .returned v0_ ∧ Kd.R k66 66 w' w.heap.size (fun _ => True) v0_ r ∧ Below w.heap.size w w' :=
  api_Pair_50.calls_ (d := k66) A0 c0 l0 r w hr0 hc0 h

theorem api_Mark_51.calls (A0 : Option Addr) (c0 : Nat) (l0 : List S69) (r : List S69) (w : World) (hr0 : Kd.C k69 w A0 l0.length l0) (hc0 : l0.length ≤ c0) (h : api_Mark_51.f l0 = some r) :
    Calls Try.prog 51 #[.slice A0 l0.length c0] w fun e w' => ∃ v0_ : Value, e = .returned v0_ ∧ Kd.R k69 69 w' w.heap.size (fun _ => True) v0_ r ∧ Below w.heap.size w w' :=
  api_Mark_51.calls_ (d := k69) A0 c0 l0 r w hr0 hc0 h
end Go.Proofs.Ytmhdkjihhdljlaa.X
