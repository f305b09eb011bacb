/- SubsBoth: plain, and its walk. -/
import Derived.Test.YtjcmmlbonljcnaaHShown
import Derived.Test.YtjcmmlbonljcnaaOSb
import Derived.Deep.RegionHeld3
import Derived.Laws.Tables
import Derived.Deep.WholeRow
import Derived.Deep.QuietTactic
import Derived.BigQuiet
set_option linter.unusedVariables false
set_option linter.unusedSimpArgs false
namespace Go.Proofs.Ytjcmmlbonljcnaa.X
open Go.RowKit Go.Maps Go.ChangeMaps Go.MapKept Go.Proofs.Ytjcmmlbonljcnaa.Mv Go.Proofs.YtjcmmlbonljcnaaW.PrintWords

abbrev OpL := List (Int × Int × ByteArray)
abbrev op0 : Int × Int × ByteArray := (0, 0, ByteArray.empty)
/-- The pair that an op tells. -/
def prOf (o : Int × Int × ByteArray) : Pr := (o.2.1, nameB o.2.2)
def prAt (l : OpL) (j : Nat) : Pr := prOf (l.getD j op0)
theorem add_in (ad : Addr) (a b : Nat) (hb : b ≠ 0) : ad.add (a + b) = { block := (ad.add a).block, off := (ad.add a).off + b } := by
  unfold Addr.add
  by_cases h : a = 0
  · subst h; simp [hb]
  · simp [h, hb, Nat.add_assoc]
theorem op_cells {w : World} {ad : Addr} {l : OpL} (h : kOp.C w (some ad) l.length l) {i : Nat} (hi : i < l.length) :
    w.cell? (ad.add (i * 3)) = some (.int .u8 (l.getD i op0).1) ∧ w.cell? { block := (ad.add (i * 3)).block, off := (ad.add (i * 3)).off + 1 } = some (.int .i64 (l.getD i op0).2.1) ∧ w.cell? { block := (ad.add (i * 3)).block, off := (ad.add (i * 3)).off + 2 } = some (.string (l.getD i op0).2.2) := by
  obtain ⟨ad', c, e, h1, h2, h3⟩ := Kd.C_get h op0 (i : Int) (by omega) (by omega)
  cases e
  rw [Int.toNat_natCast] at h2 h3
  obtain ⟨c0, c1, rfl, rfl, c2, c3, rfl, rfl, rfl⟩ := h2
  refine ⟨?_, ?_, ?_⟩
  · have := h3 0 _ rfl
    exact this
  · rw [← add_in ad (i * 3) 1 (by decide)]
    exact h3 1 _ rfl
  · rw [← add_in ad (i * 3) 2 (by decide)]
    exact h3 2 _ rfl
/-- What is heard behind so many. -/
def HeardO (l : OpL) (i : Nat) (L : List Pr) : Prop := ∀ p, p ∈ L ↔ ∃ j, j < i ∧ p = prAt l j
theorem heardO_add {l : OpL} {i : Nat} {L : List Pr} (h : HeardO l i L) : HeardO l (i + 1) (addP (prAt l i) L) := by
  intro p
  rw [mem_add, h]
  constructor
  · rintro (rfl | ⟨j, hj, rfl⟩)
    · exact ⟨i, by omega, rfl⟩
    · exact ⟨j, by omega, rfl⟩
  · rintro ⟨j, hj, rfl⟩
    rcases (by omega : j < i ∨ j = i) with h | rfl
    · exact .inr ⟨j, h, rfl⟩
    · exact .inl rfl
theorem drop_of (L : List Pr) (c d : Int) : ofP c (dropP d L) = if c = d then [] else ofP c L := by
  unfold ofP dropP
  rw [List.filter_filter]
  by_cases h : c = d
  · rw [if_pos h]
    subst h
    simp
  · rw [if_neg h]
    congr 1
    refine List.filter_congr fun q _ => ?_
    by_cases e : q.1 = c
    · simp [e, h]
    · simp [e]
theorem set_block {w : World} {g i : Nat} {cs : Array Value} {t : TypeId} {v : Value} (h : w.heap[g]? = some (.cells cs t (0, 0))) : (w.setCell ⟨g, i, none⟩ v).heap[g]? = some (.cells (cs.setIfInBounds i v) t (0, 0)) := by
  rw [setCell_eq_setRow w g i cs t (0, 0) v h]
  exact setRow_heap w g cs _ t _ h
theorem SubSt.set_ {w0 w : World} {g m n hb i : Nat} {L : List Pr} {v : Value} (h : SubSt w0 w g m n L) (h1 : hb ≠ g) (h2 : hb ≠ m) (h3 : w0.heap.size ≤ hb) : SubSt w0 (w.setCell ⟨hb, i, none⟩ v) g m n L := by
  obtain ⟨⟨a1, M, a2, a3⟩, hB, hg, hm⟩ := h
  exact ⟨⟨(Below.heap_setCell _ _ _ _ (Ne.symm h1)).trans a1, M, a2.same (Below.heap_setCell _ _ _ _ (Ne.symm h2)), a3⟩, hB.setCell (p := ⟨hb, i, none⟩) h3 _, hg, hm⟩
/-- How many each hears, of the first so many. -/
def WasAt (l : OpL) (L : List Pr) (i : Nat) (cs : Array Value) : Prop := cs.size = 20 ∧ ∀ j, j < i → cs[j]? = some (.int .i64 (ofP (l.getD j op0).2.1 L).length)
theorem was_set {l : OpL} {L : List Pr} {i : Nat} {cs : Array Value} (h : WasAt l L i cs) (hi : i < 20) : WasAt l L (i + 1) (cs.setIfInBounds i (.int .i64 (ofP (l.getD i op0).2.1 L).length)) := by
  refine ⟨by rw [Array.size_setIfInBounds]; exact h.1, fun j hj => ?_⟩
  rw [Array.getElem?_setIfInBounds]
  by_cases e : i = j
  · subst e
    rw [if_pos rfl, if_pos (by rw [h.1]; exact hi)]
  · rw [if_neg e]
    exact h.2 j (by omega)

set_option maxHeartbeats 4000000 in
set_option maxRecDepth 100000 in
theorem SubsBoth_walk (A1 : Option Addr) (l : OpL) (c1 : Nat) (z : Int) (w : World) (h1 : kOp.C w A1 l.length l) (hc1 : l.length ≤ c1) (hok : ∀ o ∈ l, (Lit.int .i64 o.2.1).wf = true) (hz0 : 0 ≤ z) (hz1 : z ≤ 255) :
    Calls Try.prog 5 #[.slice A1 l.length c1, .int .u8 z] w fun e w' => e = .returned (.bool true) ∧ Below w.heap.size w w' := by
  have H1 := Aside0.mk h1
  have HOK := Aside0.mk hok
  obtain ⟨a, ha⟩ : ∃ a : Nat, z = a := ⟨z.toNat, by omega⟩
  subst ha
  obtain ⟨n, hn⟩ : ∃ n : Nat, min l.length 20 = n := ⟨_, rfl⟩
  have hn8 : n ≤ 20 := by omega
  have hnl : n ≤ l.length := by omega
  have hnm : min (l.length : Int) 20 = n := by omega
  clear h1 hok hn
  go_enter Try.func5, Try.ntmps5
  go_wp2_with fail
  refine (shown_true _).mono ?_
  rintro e w1 ⟨rfl, HB1⟩
  go_wp2_with fail
  refine (new_s w w1 HB1.out).mono ?_
  rintro e w2 ⟨g, m, rfl, HS2, hg2, hm2, HB2⟩
  go_wp2
  go_loopw [8] (fun v8 wr => ∃ (i : Nat) (L : List Pr), v8 = .int .i64 i ∧ i ≤ n ∧ Aside0 (SubSt w wr g m i L) ∧ Aside0 (HeardO l i L)) (fun v8 _ => n - (match v8 with | .int _ i => i.toNat | _ => 0))
  case atStart => exact ⟨0, [], rfl, Nat.zero_le _, HS2, ⟨fun p => ⟨fun h => (by cases h), fun ⟨j, hj, _⟩ => (by omega)⟩⟩⟩
  case round =>
    clear HS2 HB2 HB1
    obtain ⟨i, L, rfl, hi, HS, HH⟩ := hrel
    by_cases hlt : i < n
    · have hI : (i : Int) < n := by omega
      obtain ⟨ad, e0, _⟩ := (H1.out).2.2 (by omega)
      subst e0
      have hoc := op_cells (Kd.C_below H1.out HS.out.below) (i := i) (by omega)
      have d1 := hoc.2.1
      have d2 := hoc.2.2
      have HON := Aside0.mk (HOK.out _ (List.getElem_mem (show i < l.length by omega)))
      rw [show l[i]'(by omega) = l.getD i op0 by rw [List.getD_eq_getElem?_getD, List.getElem?_eq_getElem (by omega)]; rfl] at HON
      obtain ⟨o, ho⟩ : ∃ o, l.getD i op0 = o := ⟨_, rfl⟩
      rw [ho] at d1 d2 HON
      obtain ⟨ok_, oc, os_⟩ := o
      simp only at d1 d2 HON
      have HPR := Aside0.mk (show prAt l i = (oc, nameB os_) by unfold prAt; rw [ho]; rfl)
      clear hoc ho
      obtain ⟨p, hp⟩ : ∃ p, ad.add (i * 3) = p := ⟨_, rfl⟩
      rw [hp] at d1 d2
      have hpb : p.block ≠ m := fun e => by
        have h9 := (op_cells H1.out (i := i) (by omega)).2.1
        rw [hp] at h9
        have h8 := World.block_lt_of_cell? _ _ h9
        simp only at h8
        have := HS.out.hm
        omega
      have hI2 : (i : Int) < l.length := by omega
      go_wp2_with fail
      have HSd := Aside0.mk (HS.out.next (w1 := wr.drew) ⟨rfl, rfl, rfl, Nat.le_refl _, fun _ _ => rfl⟩)
      go_region_held3 (fun wz => wz.cell? { block := p.block, off := p.off + 1 } = some (.int .i64 oc) ∧ wz.cell? { block := p.block, off := p.off + 2 } = some (.string os_)) (first | exact ⟨d1, d2⟩ | exact ⟨i1, i2⟩ | exact ⟨j1, j2⟩) (first
        | (go_at_call 9
           refine (name_any os_ _).mono ?_
           rintro e w4 ⟨rfl, HB4⟩
           have HS4 := Aside0.mk (HSd.out.next HB4.out)
           have i1 := (HB4.out.cell (World.block_lt_of_cell? _ _ d1)).trans d1
           have i2 := (HB4.out.cell (World.block_lt_of_cell? _ _ d2)).trans d2)
        | (go_at_call 12
           refine (add_s g m i L oc (nameB os_) _ HS4.out (by omega) (ok_name HON.out os_) _ rfl).mono ?_
           rintro e w5 ⟨rfl, HS5, HK5⟩
           have j1 : w5.cell? { block := p.block, off := p.off + 1 } = some (.int .i64 oc) := HK5.out.cell i1 hpb
           have j2 : w5.cell? { block := p.block, off := p.off + 2 } = some (.string os_) := HK5.out.cell i2 hpb))
      have HH1 := heardO_add HH.out
      rw [HPR.out] at HH1
      go_wp2
      exact ⟨⟨i + 1, _, by simp, by omega, HS5, ⟨HH1⟩⟩, by simp; omega⟩
    · obtain rfl : n = i := by omega
      have hI : ¬ ((n : Int) < n) := by omega
      go_wp2
      go_loopw [9] (fun v9 wr => ∃ i : Nat, v9 = .int .i64 i ∧ i ≤ n ∧ Aside0 (SubSt w wr g m n L)) (fun v9 _ => n - (match v9 with | .int _ i => i.toNat | _ => 0))
      case atStart => exact ⟨0, rfl, Nat.zero_le _, HS⟩
      case round =>
        clear HS hI hlt hi
        obtain ⟨i, rfl, hi, HS⟩ := hrel
        by_cases hlt : i < n
        · have hI : (i : Int) < n := by omega
          have hI2 : (i : Int) < l.length := by omega
          obtain ⟨ad, e0, _⟩ := (H1.out).2.2 (by omega)
          subst e0
          obtain ⟨o, ho⟩ : ∃ o, l.getD i op0 = o := ⟨_, rfl⟩
          obtain ⟨p, hp⟩ : ∃ p, ad.add (i * 3) = p := ⟨_, rfl⟩
          obtain ⟨_, h91, h92⟩ := op_cells H1.out (i := i) (by omega)
          rw [hp, ho] at h91 h92
          obtain ⟨ok_, oc, os_⟩ := o
          simp only at h91 h92
          have HC1 := Aside0.mk h91
          have HC2 := Aside0.mk h92
          have hpr : (oc, nameB os_) ∈ L := (HH.out _).2 ⟨i, hlt, by unfold prAt; rw [ho]; rfl⟩
          obtain ⟨y, hy⟩ : ∃ y, nameB os_ = y := ⟨_, rfl⟩
          rw [hy] at hpr
          have HY := Aside0.mk hy
          have HPR := Aside0.mk hpr
          have d2 := (HS.out.below.cell (World.block_lt_of_cell? _ _ h92)).trans h92
          obtain ⟨l5, hl5⟩ : ∃ l5, hearP y L = l5 := ⟨_, rfl⟩
          obtain ⟨q5, hq5⟩ : ∃ q, l5.length = q := ⟨_, rfl⟩
          have hlen := HS.out.subs.2.choose_spec.2.2.2.2
          have hsrt := HS.out.subs.2.choose_spec.2.2.1
          have hq5l : q5 ≤ 20 := by rw [← hq5, ← hl5]; exact Nat.le_trans len_hear (by omega)
          have HL5 := Aside0.mk hl5
          have HQ5 := Aside0.mk hq5
          have HIN := Aside0.mk (show ∀ a ∈ l5, (a, y) ∈ L from fun a h => mem_hear.1 (hl5 ▸ h))
          have HST := Aside0.mk (show l5.Pairwise (fun a b => a < b) from hl5 ▸ hear_srt hsrt y)
          have HOC := Aside0.mk (show oc ∈ l5 by rw [← hl5]; exact mem_hear.2 hpr)
          clear hy hpr h91 h92 ho hl5 hq5 hlen hsrt
          go_wp2_with fail
          refine (name_any os_ wr).mono ?_
          rintro e w4 ⟨rfl, HB4⟩
          rw [HY.out]
          go_wp2_with fail
          refine (hear_s g m n L y w4 (HS.out.next HB4.out) (by omega) l5 HL5.out q5 HQ5.out).mono ?_
          rintro e w5 ⟨A5, k5, rfl, hk5, HC5, HS5, HB5⟩
          go_wp2
          go_loopw [12, 13] (fun v12 v13 wk => ∃ (k : Nat) (b : Bool), v13 = .int .i64 k ∧ k ≤ q5 ∧ v12 = .bool b ∧ Aside0 (b = true ↔ oc ∈ l5.take k) ∧ Aside0 (SubSt w wk g m n L) ∧ Aside0 (Below w5.heap.size w5 wk)) (fun _ v13 _ => q5 - (match v13 with | .int _ i => i.toNat | _ => 0))
          case atStart => exact ⟨0, false, rfl, Nat.zero_le _, rfl, ⟨by simp⟩, HS5, ⟨Below.refl _ _⟩⟩
          case round =>
            clear HS5
            obtain ⟨k, b, rfl, hk, rfl, HBb, HSk, HBk⟩ := hrel
            have d1 := (HSk.out.below.cell (World.block_lt_of_cell? _ _ HC1.out)).trans HC1.out
            by_cases hkq : k < q5
            · as_aux_lemma =>
                have hI3 : (k : Int) < q5 := by omega
                obtain ⟨ad5, e5, hcell⟩ := (Kd.reads_of_C (d := (0 : Int)) HC5.out).2.2 (by rw [HQ5.out]; omega)
                subst e5
                obtain ⟨ak, hak⟩ : ∃ ak, l5.getD k 0 = ak := ⟨_, rfl⟩
                have hc5 := hcell k (by rw [HQ5.out]; exact hkq)
                rw [hak] at hc5
                have HC5k := Aside0.mk hc5
                have e5 := (HBk.out.cell (World.block_lt_of_cell? _ _ hc5)).trans hc5
                have hkl : k < l5.length := by rw [HQ5.out]; exact hkq
                have hgk : l5[k] = ak := by rw [← hak, List.getD_eq_getElem?_getD, List.getElem?_eq_getElem hkl]; rfl
                have htk : ∀ b2 : Bool, (b2 = true ↔ (b = true ∨ ak = oc)) → (b2 = true ↔ oc ∈ l5.take (k + 1)) := by
                  intro b2 h2
                  rw [h2, HBb.out, List.take_succ_eq_append_getElem hkl, List.mem_append, List.mem_singleton, hgk]
                  exact ⟨fun h => h.elim .inl (fun e => .inr e.symm), fun h => h.elim .inl (fun e => .inr e.symm)⟩
                have HTK := Aside0.mk htk
                obtain ⟨l6, hl6⟩ : ∃ l6, ofP ak L = l6 := ⟨_, rfl⟩
                obtain ⟨q6, hq6⟩ : ∃ q, l6.length = q := ⟨_, rfl⟩
                have hq6l : q6 ≤ 20 := by rw [← hq6, ← hl6]; exact Nat.le_trans len_of (Nat.le_trans HSk.out.subs.2.choose_spec.2.2.2.2 hn8)
                have HL6 := Aside0.mk hl6
                have HQ6 := Aside0.mk hq6
                have HY6 := Aside0.mk (show y ∈ l6 by rw [← hl6]; exact mem_of.2 (HIN.out ak (hgk ▸ List.getElem_mem hkl)))
                have hprev : ∀ hk0 : 0 < k, ∃ aj : Int, w5.cell? (ad5.add (k - 1)) = some (.int .i64 aj) ∧ aj < ak := by
                  intro hk0
                  have hc := hcell (k - 1) (by omega)
                  refine ⟨_, hc, ?_⟩
                  have h9 := List.pairwise_iff_getElem.1 HST.out (k - 1) k (by omega) hkl (by omega)
                  rw [List.getD_eq_getElem?_getD, List.getElem?_eq_getElem (by omega : k - 1 < l5.length)]
                  rw [← hgk]
                  exact h9
                have HPV := Aside0.mk hprev
                clear hak hc5 hcell hkl hgk htk hl6 hq6 hprev
                go_wp2_with fail
                cases b with
                | true =>
                  go_quiet (fail)
                  go_wp2_with fail
                  have HSq := Aside0.mk (HSk.out.next (pw_below_drewN (Below.refl _ _) nq))
                  refine (of_s g m n L ak (wr.drewN nq) HSq.out (by omega) l6 HL6.out q6 HQ6.out).mono ?_
                  rintro e w7 ⟨A7, k7, rfl, hk7, HC7, HS7, HB7⟩
                  go_wp2_with fail
                  refine (in_any A7 k7 l6 y q6 HQ6.out w7 HC7.out hk7 (by omega) true ⟨fun _ => HY6.out, fun _ => rfl⟩).mono ?_
                  rintro e w8 ⟨rfl, HB8⟩
                  have HB58 := Aside0.mk (below_then (below_then (pw_below_drewN HBk.out nq) (pw_below_drewN HBk.out nq).size HB7.out) (below_then (pw_below_drewN HBk.out nq) (pw_below_drewN HBk.out nq).size HB7.out).size HB8.out)
                  have HS8 := Aside0.mk (HS7.out.next HB8.out)
                  have e8 := (HB58.out.cell (World.block_lt_of_cell? _ _ HC5k.out)).trans HC5k.out
                  by_cases hk0 : k = 0
                  · have hk0' : ¬ (0 < (k : Int)) := by omega
                    go_wp2_with fail
                    go_quiet (fail)
                    go_wp2
                    exact ⟨⟨k + 1, true, by simp [hk0], by omega, rfl, ⟨HTK.out true (by simp)⟩, ⟨HS8.out.next (pw_below_drewN (Below.refl _ _) _)⟩, ⟨pw_below_drewN HB58.out _⟩⟩, by simp; omega⟩
                  · obtain ⟨aj, haj, hlt9⟩ := HPV.out (by omega)
                    obtain ⟨kk, rfl⟩ : ∃ kk, k = kk + 1 := ⟨k - 1, by omega⟩
                    rw [Nat.add_sub_cancel] at haj
                    have e8' : w8.cell? { block := ad5.block, off := ad5.off + (kk + 1) } = some (.int .i64 ak) := by simpa [Addr.add] using e8
                    have e9 := (HB58.out.cell (World.block_lt_of_cell? _ _ haj)).trans haj
                    have hk0' : (0 : Int) < (kk : Int) + 1 := by omega
                    have hge : ¬ (ak ≤ aj) := by omega
                    clear haj
                    go_wp2_with fail
                    go_quiet (fail)
                    go_wp2
                    exact ⟨⟨kk + 1 + 1, true, by simp, by omega, rfl, ⟨HTK.out true (by simp)⟩, ⟨HS8.out.next (pw_below_drewN (Below.refl _ _) _)⟩, ⟨pw_below_drewN HB58.out _⟩⟩, by simp; omega⟩
                | false =>
                  by_cases hao : ak = oc
                  · have hb9 : (ak == oc) = true := by simpa using hao
                    have HAO := Aside0.mk hao
                    clear hao
                    go_quiet (fail)
                    go_wp2_with fail
                    have HSq := Aside0.mk (HSk.out.next (pw_below_drewN (Below.refl _ _) nq))
                    refine (of_s g m n L ak (wr.drewN nq) HSq.out (by omega) l6 HL6.out q6 HQ6.out).mono ?_
                    rintro e w7 ⟨A7, k7, rfl, hk7, HC7, HS7, HB7⟩
                    go_wp2_with fail
                    refine (in_any A7 k7 l6 y q6 HQ6.out w7 HC7.out hk7 (by omega) true ⟨fun _ => HY6.out, fun _ => rfl⟩).mono ?_
                    rintro e w8 ⟨rfl, HB8⟩
                    have HB58 := Aside0.mk (below_then (below_then (pw_below_drewN HBk.out nq) (pw_below_drewN HBk.out nq).size HB7.out) (below_then (pw_below_drewN HBk.out nq) (pw_below_drewN HBk.out nq).size HB7.out).size HB8.out)
                    have HS8 := Aside0.mk (HS7.out.next HB8.out)
                    have e8 := (HB58.out.cell (World.block_lt_of_cell? _ _ HC5k.out)).trans HC5k.out
                    by_cases hk0 : k = 0
                    · have hk0' : ¬ (0 < (k : Int)) := by omega
                      go_wp2_with fail
                      go_quiet (fail)
                      go_wp2
                      exact ⟨⟨k + 1, true, by simp [hk0], by omega, rfl, ⟨HTK.out true ⟨fun _ => .inr HAO.out, fun _ => rfl⟩⟩, ⟨HS8.out.next (pw_below_drewN (Below.refl _ _) _)⟩, ⟨pw_below_drewN HB58.out _⟩⟩, by simp; omega⟩
                    · obtain ⟨aj, haj, hlt9⟩ := HPV.out (by omega)
                      obtain ⟨kk, rfl⟩ : ∃ kk, k = kk + 1 := ⟨k - 1, by omega⟩
                      rw [Nat.add_sub_cancel] at haj
                      have e8' : w8.cell? { block := ad5.block, off := ad5.off + (kk + 1) } = some (.int .i64 ak) := by simpa [Addr.add] using e8
                      have e9 := (HB58.out.cell (World.block_lt_of_cell? _ _ haj)).trans haj
                      have hk0' : (0 : Int) < (kk : Int) + 1 := by omega
                      have hge : ¬ (ak ≤ aj) := by omega
                      clear haj
                      go_wp2_with fail
                      go_quiet (fail)
                      go_wp2
                      exact ⟨⟨kk + 1 + 1, true, by simp, by omega, rfl, ⟨HTK.out true ⟨fun _ => .inr HAO.out, fun _ => rfl⟩⟩, ⟨HS8.out.next (pw_below_drewN (Below.refl _ _) _)⟩, ⟨pw_below_drewN HB58.out _⟩⟩, by simp; omega⟩
                  · have hb9 : (ak == oc) = false := by simpa using hao
                    have HAO := Aside0.mk hao
                    clear hao
                    go_quiet (fail)
                    go_wp2_with fail
                    have HSq := Aside0.mk (HSk.out.next (pw_below_drewN (Below.refl _ _) nq))
                    refine (of_s g m n L ak (wr.drewN nq) HSq.out (by omega) l6 HL6.out q6 HQ6.out).mono ?_
                    rintro e w7 ⟨A7, k7, rfl, hk7, HC7, HS7, HB7⟩
                    go_wp2_with fail
                    refine (in_any A7 k7 l6 y q6 HQ6.out w7 HC7.out hk7 (by omega) true ⟨fun _ => HY6.out, fun _ => rfl⟩).mono ?_
                    rintro e w8 ⟨rfl, HB8⟩
                    have HB58 := Aside0.mk (below_then (below_then (pw_below_drewN HBk.out nq) (pw_below_drewN HBk.out nq).size HB7.out) (below_then (pw_below_drewN HBk.out nq) (pw_below_drewN HBk.out nq).size HB7.out).size HB8.out)
                    have HS8 := Aside0.mk (HS7.out.next HB8.out)
                    have e8 := (HB58.out.cell (World.block_lt_of_cell? _ _ HC5k.out)).trans HC5k.out
                    by_cases hk0 : k = 0
                    · have hk0' : ¬ (0 < (k : Int)) := by omega
                      go_wp2_with fail
                      go_quiet (fail)
                      go_wp2
                      exact ⟨⟨k + 1, false, by simp [hk0], by omega, rfl, ⟨HTK.out false ⟨fun h => (by cases h), fun h => h.elim (fun h => (by cases h)) (fun h => absurd h HAO.out)⟩⟩, ⟨HS8.out.next (pw_below_drewN (Below.refl _ _) _)⟩, ⟨pw_below_drewN HB58.out _⟩⟩, by simp; omega⟩
                    · obtain ⟨aj, haj, hlt9⟩ := HPV.out (by omega)
                      obtain ⟨kk, rfl⟩ : ∃ kk, k = kk + 1 := ⟨k - 1, by omega⟩
                      rw [Nat.add_sub_cancel] at haj
                      have e8' : w8.cell? { block := ad5.block, off := ad5.off + (kk + 1) } = some (.int .i64 ak) := by simpa [Addr.add] using e8
                      have e9 := (HB58.out.cell (World.block_lt_of_cell? _ _ haj)).trans haj
                      have hk0' : (0 : Int) < (kk : Int) + 1 := by omega
                      have hge : ¬ (ak ≤ aj) := by omega
                      clear haj
                      go_wp2_with fail
                      go_quiet (fail)
                      go_wp2
                      exact ⟨⟨kk + 1 + 1, false, by simp, by omega, rfl, ⟨HTK.out false ⟨fun h => (by cases h), fun h => h.elim (fun h => (by cases h)) (fun h => absurd h HAO.out)⟩⟩, ⟨HS8.out.next (pw_below_drewN (Below.refl _ _) _)⟩, ⟨pw_below_drewN HB58.out _⟩⟩, by simp; omega⟩
            · obtain rfl : k = q5 := by omega
              have hI3 : ¬ ((k : Int) < k) := by omega
              obtain rfl : b = true := HBb.out.2 (by rw [List.take_of_length_le (by rw [HQ5.out]; exact Nat.le_refl _)]; exact HOC.out)
              obtain ⟨l6, hl6⟩ : ∃ l6, ofP oc L = l6 := ⟨_, rfl⟩
              obtain ⟨q6, hq6⟩ : ∃ q, l6.length = q := ⟨_, rfl⟩
              have hq6l : q6 ≤ 20 := by rw [← hq6, ← hl6]; exact Nat.le_trans len_of (Nat.le_trans HSk.out.subs.2.choose_spec.2.2.2.2 hn8)
              have HL6 := Aside0.mk hl6
              have HQ6 := Aside0.mk hq6
              have HY6 := Aside0.mk (show y ∈ l6 by rw [← hl6]; exact mem_of.2 HPR.out)
              clear hl6 hq6
              go_wp2_with fail
              refine (of_s g m n L oc wr HSk.out (by omega) l6 HL6.out q6 HQ6.out).mono ?_
              rintro e w7 ⟨A7, k7, rfl, hk7, HC7, HS7, HB7⟩
              go_wp2_with fail
              refine (in_any A7 k7 l6 y q6 HQ6.out w7 HC7.out hk7 (by omega) true ⟨fun _ => HY6.out, fun _ => rfl⟩).mono ?_
              rintro e w8 ⟨rfl, HB8⟩
              go_wp2
              exact ⟨⟨i + 1, by simp, by omega, ⟨HS7.out.next HB8.out⟩⟩, by simp; omega⟩
        · obtain rfl : n = i := by omega
          have hI : ¬ ((n : Int) < n) := by omega
          by_cases hn0 : n = 0
          · subst hn0
            have hL0 : L = [] := List.eq_nil_iff_forall_not_mem.2 fun p hp => by
              obtain ⟨j, hj, _⟩ := (HH.out p).1 hp
              omega
            subst hL0
            go_wp2_with fail
            refine (hear_s g m 0 [] ⟨#[120]⟩ wr HS.out (by omega) [] rfl 0 rfl).mono ?_
            rintro e w5 ⟨A5, k5, rfl, _, _, HS5, _⟩
            go_wp2_with fail
            refine (of_s g m 0 [] 1 w5 HS5.out (by omega) [] rfl 0 rfl).mono ?_
            rintro e w6 ⟨A6, k6, rfl, _, _, HS6, _⟩
            go_wp2
            go_ret
            exact ⟨rfl, HS6.out.below⟩
          · as_aux_lemma =>
              have hn0' : ¬ ((n : Int) = 0) := by omega
              obtain ⟨k0, hk0⟩ : ∃ k0 : Nat, a % n = k0 := ⟨_, rfl⟩
              have hk0n : k0 < n := by rw [← hk0]; exact Nat.mod_lt _ (by omega)
              have hmod : (a : Int) % n = k0 := by rw [← hk0]; rfl
              obtain ⟨ad, e0, _⟩ := (H1.out).2.2 (by omega)
              subst e0
              obtain ⟨o0, ho0⟩ : ∃ o, l.getD k0 op0 = o := ⟨_, rfl⟩
              obtain ⟨p0, hp0⟩ : ∃ p, ad.add (k0 * 3) = p := ⟨_, rfl⟩
              obtain ⟨_, h91, h92⟩ := op_cells H1.out (i := k0) (by omega)
              rw [hp0, ho0] at h91 h92
              obtain ⟨ok0, oc0, os0⟩ := o0
              simp only at h91 h92
              have d1 := (HS.out.below.cell (World.block_lt_of_cell? _ _ h91)).trans h91
              have hI2 : (k0 : Int) < l.length := by omega
              clear h91 h92 ho0
              go_wp2_with (refine wpList_store_row rfl 44 (.tmp 17) (.tmp 144) rfl wr.heap.size _ rfl rfl 44 _ (heap_alloc_new _ _) (by kernel_rfl) rfl (by decide +kernel) ?_)
              rw [World.setRow_alloc_new]
              generalize hZ : (#[.int .i64 0, .int .i64 0, .int .i64 0, .int .i64 0, .int .i64 0, .int .i64 0, .int .i64 0, .int .i64 0, .int .i64 0, .int .i64 0, .int .i64 0, .int .i64 0, .int .i64 0, .int .i64 0, .int .i64 0, .int .i64 0, .int .i64 0, .int .i64 0, .int .i64 0, .int .i64 0] : Array Value) = Z
              have HZS := Aside0.mk (show Z.size = 20 by rw [← hZ]; rfl)
              clear hZ
              obtain ⟨hb, hhb⟩ : ∃ hb, wr.heap.size = hb := ⟨_, rfl⟩
              have hsl := HS.out.subs.lt
              have hbs := HS.out.below.size
              have HBG := Aside0.mk (show hb ≠ g ∧ hb ≠ m ∧ w.heap.size ≤ hb by omega)
              have HSB := Aside0.mk (HS.out.next (below_alloc (Below.refl _ _) (.cells Z 44)))
              have HBK := Aside0.mk (show (wr.alloc (.cells Z 44)).heap[hb]? = some (.cells Z 44 (0, 0)) by rw [← hhb]; have := heap_alloc_new wr (.cells Z 44); simpa using this)
              rw [hhb]
              clear hhb hsl hbs
              go_loopw [18] (fun v18 wr => ∃ (i : Nat) (cs : Array Value), v18 = .int .i64 i ∧ i ≤ n ∧ Aside0 (wr.heap[hb]? = some (.cells cs 44 (0, 0))) ∧ Aside0 (WasAt l L i cs) ∧ Aside0 (SubSt w wr g m n L)) (fun v18 _ => n - (match v18 with | .int _ i => i.toNat | _ => 0))
              case atStart => exact ⟨0, Z, rfl, Nat.zero_le _, HBK, ⟨HZS.out, fun j hj => (by omega)⟩, HSB⟩
              case round =>
                clear HBK HSB
                obtain ⟨i, cs, rfl, hi, HBK, HWA, HS3⟩ := hrel
                by_cases hlt : i < n
                · have hI : (i : Int) < n := by omega
                  have hI3 : (i : Int) < l.length := by omega
                  obtain ⟨o, ho⟩ : ∃ o, l.getD i op0 = o := ⟨_, rfl⟩
                  obtain ⟨p, hp⟩ : ∃ p, ad.add (i * 3) = p := ⟨_, rfl⟩
                  obtain ⟨_, h91, _⟩ := op_cells H1.out (i := i) (by omega)
                  rw [hp, ho] at h91
                  obtain ⟨ok_, oc, os_⟩ := o
                  simp only at h91
                  have d1 := (HS3.out.below.cell (World.block_lt_of_cell? _ _ h91)).trans h91
                  have hI20 : (i : Int) < 20 := by omega
                  have HWN := Aside0.mk (was_set HWA.out (by omega : i < 20))
                  rw [ho] at HWN
                  obtain ⟨l6, hl6⟩ : ∃ l6, ofP oc L = l6 := ⟨_, rfl⟩
                  obtain ⟨q6, hq6⟩ : ∃ q, l6.length = q := ⟨_, rfl⟩
                  simp only [hl6, hq6] at HWN
                  have HL6 := Aside0.mk hl6
                  have HQ6 := Aside0.mk hq6
                  clear h91 ho hl6 hq6
                  go_wp2_with fail
                  refine (of_s g m n L oc wr HS3.out (by omega) l6 HL6.out q6 HQ6.out).mono ?_
                  rintro e w7 ⟨A7, k7, rfl, hk7, _, HS7, HB7⟩
                  have HBK7 := Aside0.mk ((HB7.out.block hb (pwlt HBK.out)).trans HBK.out)
                  have hci : i < cs.size := by have := HWA.out.1; omega
                  have cc : w7.cell? ⟨hb, i, none⟩ = some cs[i] := by simp [World.cell?, HBK7.out, hci]
                  have cf : w7.frozen? ⟨hb, i, none⟩ = false := by simp [World.frozen?, HBK7.out]
                  go_wp2
                  exact ⟨⟨i + 1, _, by simp, by omega, ⟨set_block HBK7.out⟩, HWN, ⟨HS7.out.set_ HBG.out.1 HBG.out.2.1 HBG.out.2.2⟩⟩, by simp; omega⟩
                · obtain rfl : n = i := by omega
                  have hI : ¬ ((n : Int) < n) := by omega
                  go_wp2_with fail
                  refine (drop_s g m n L oc0 wr HS3.out).mono ?_
                  rintro e w8 ⟨rfl, HS8, HK8⟩
                  have HBK8 := Aside0.mk ((HK8.out.block hb (pwlt HBK.out) HBG.out.2.1).trans HBK.out)
                  go_wp2
                  go_loopw [19] (fun v19 wr => ∃ i : Nat, v19 = .int .i64 i ∧ i ≤ n ∧ Aside0 (wr.heap[hb]? = some (.cells cs 44 (0, 0))) ∧ Aside0 (SubSt w wr g m n (dropP oc0 L))) (fun v19 _ => n - (match v19 with | .int _ i => i.toNat | _ => 0))
                  case atStart => exact ⟨0, rfl, Nat.zero_le _, HBK8, HS8⟩
                  case round =>
                    clear HBK8 HS8 HS3 HBK hlt hi hI
                    obtain ⟨i, rfl, hi, HBK, HS3⟩ := hrel
                    by_cases hlt : i < n
                    · have hI : (i : Int) < n := by omega
                      have hI3 : (i : Int) < l.length := by omega
                      have hI20 : (i : Int) < 20 := by omega
                      obtain ⟨o, ho⟩ : ∃ o, l.getD i op0 = o := ⟨_, rfl⟩
                      obtain ⟨p, hp⟩ : ∃ p, ad.add (i * 3) = p := ⟨_, rfl⟩
                      obtain ⟨_, h91, _⟩ := op_cells H1.out (i := i) (by omega)
                      rw [hp, ho] at h91
                      have hwa := HWA.out.2 i hlt
                      rw [ho] at hwa
                      obtain ⟨ok_, oc, os_⟩ := o
                      simp only at h91 hwa
                      have d1 := (HS3.out.below.cell (World.block_lt_of_cell? _ _ h91)).trans h91
                      have cc : wr.cell? ⟨hb, i, none⟩ = some (.int .i64 (ofP oc L).length) := by simp [World.cell?, HBK.out, hwa]
                      obtain ⟨q5, hq5⟩ : ∃ q, (ofP oc L).length = q := ⟨_, rfl⟩
                      rw [hq5] at cc
                      obtain ⟨l6, hl6⟩ : ∃ l6, ofP oc (dropP oc0 L) = l6 := ⟨_, rfl⟩
                      have hd := drop_of L oc oc0
                      rw [hl6] at hd
                      have HL6 := Aside0.mk hl6
                      by_cases hoc : oc = oc0
                      · have h0 : l6 = [] := by rw [hd, if_pos hoc]
                        subst h0
                        clear h91 ho hl6 hwa hd hq5
                        subst hoc
                        go_wp2_with fail
                        refine (of_s g m n _ _ wr HS3.out (by omega) [] HL6.out 0 rfl).mono ?_
                        rintro e w7 ⟨A7, k7, rfl, hk7, _, HS7, HB7⟩
                        go_wp2
                        exact ⟨⟨i + 1, by simp, by omega, ⟨(HB7.out.block hb (pwlt HBK.out)).trans HBK.out⟩, HS7⟩, by simp; omega⟩
                      · have HQ6 := Aside0.mk (show l6.length = q5 by rw [hd, if_neg hoc, hq5])
                        clear h91 ho hl6 hwa hd hq5
                        go_wp2_with fail
                        refine (of_s g m n (dropP oc0 L) oc wr HS3.out (by omega) l6 HL6.out q5 HQ6.out).mono ?_
                        rintro e w7 ⟨A7, k7, rfl, hk7, _, HS7, HB7⟩
                        go_wp2
                        exact ⟨⟨i + 1, by simp, by omega, ⟨(HB7.out.block hb (pwlt HBK.out)).trans HBK.out⟩, HS7⟩, by simp; omega⟩
                    · obtain rfl : n = i := by omega
                      have hI : ¬ ((n : Int) < n) := by omega
                      go_wp2
                      go_ret
                      exact ⟨rfl, HS3.out.below⟩
end Go.Proofs.Ytjcmmlbonljcnaa.X
