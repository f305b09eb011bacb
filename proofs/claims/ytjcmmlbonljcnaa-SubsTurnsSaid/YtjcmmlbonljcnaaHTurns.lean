/- SubsTurns: plain, and its walk. -/
import Derived.Test.YtjcmmlbonljcnaaHShown
set_option linter.unusedVariables false
set_option linter.unusedSimpArgs false
namespace Go.Proofs.Ytjcmmlbonljcnaa.X
open Go.RowKit Go.Maps Go.ChangeMaps Go.MapKept Go.Proofs.Ytjcmmlbonljcnaa.Mv Go.Proofs.YtjcmmlbonljcnaaW.PrintWords

theorem of_nodup {L : List Pr} (h : Srt L) (c : Int) : (ofP c L).Nodup := (of_srt h c).imp fun hl e => by rw [e] at hl; exact List.lt_irrefl _ hl
theorem add_fresh {L : List Pr} (h : Srt L) {c : Int} {s : ByteArray} (hs : s ∉ ofP c L) : (ofP c (addP (c, s) L)).length = (ofP c L).length + 1 := by
  have hp : (ofP c (addP (c, s) L)).Perm (s :: ofP c L) := by
    refine (List.perm_ext_iff_of_nodup (of_nodup (srt_add h) c) (List.nodup_cons.2 ⟨hs, of_nodup h c⟩)).2 fun a => ?_
    rw [List.mem_cons, mem_of, mem_of, mem_add]
    simp
  rw [hp.length_eq]
  rfl
theorem add_there {L : List Pr} (h : Srt L) {p : Pr} (hp : p ∈ L) : addP p L = L := srt_ext (srt_add h) h fun q => by
  rw [mem_add]
  exact ⟨fun h => h.elim (fun e => e ▸ hp) id, .inr⟩
theorem rem_there {L : List Pr} (h : Srt L) {c : Int} {s : ByteArray} (hs : s ∈ ofP c L) : (ofP c L).length = (ofP c (remP (c, s) L)).length + 1 := by
  have hp : (ofP c L).Perm (s :: ofP c (remP (c, s) L)) := by
    refine (List.perm_ext_iff_of_nodup (of_nodup h c) (List.nodup_cons.2 ⟨fun hm => ?_, of_nodup (srt_rem h) c⟩)).2 fun a => ?_
    · rw [mem_of, mem_rem] at hm
      exact hm.2 rfl
    · rw [List.mem_cons, mem_of, mem_of, mem_rem]
      rw [mem_of] at hs
      constructor
      · intro ha
        by_cases e : a = s
        · exact .inl e
        · exact .inr ⟨ha, by simp [e]⟩
      · rintro (rfl | ha)
        · exact hs
        · exact ha.1
  rw [hp.length_eq]
  rfl
theorem rem_not {L : List Pr} {p : Pr} (hp : p ∉ L) : remP p L = L := List.filter_eq_self.2 fun q hq => by
  simp only [decide_eq_true_eq]
  rintro rfl
  exact hp hq
/-- The channel at a place. -/
def nmAt (l : List ByteArray) (j : Nat) : ByteArray := nameB (l.getD j ByteArray.empty)
/-- What they have heard of so far. -/
def Heard (l : List ByteArray) (c : Int) (f : Nat → Nat) (i : Nat) (L : List Pr) : Prop := ∀ p, p ∈ L ↔ ∃ j, j < i ∧ p = (c, nmAt l (f j))
theorem heard_add {l : List ByteArray} {c : Int} {f : Nat → Nat} {i : Nat} {L : List Pr} (h : Heard l c f i L) : Heard l c f (i + 1) (addP (c, nmAt l (f i)) L) := by
  intro p
  rw [mem_add, h]
  constructor
  · rintro (rfl | ⟨j, hj, rfl⟩)
    · exact ⟨i, by omega, rfl⟩
    · exact ⟨j, by omega, rfl⟩
  · rintro ⟨j, hj, rfl⟩
    rcases (by omega : j < i ∨ j = i) with h | rfl
    · exact .inr ⟨j, h, rfl⟩
    · exact .inl rfl
theorem turn_all {n a k : Nat} (hk : k < n) : ∃ j, j < n ∧ (j + a) % n = k := by
  refine ⟨(k + (n - a % n)) % n, Nat.mod_lt _ (by omega), ?_⟩
  have h1 : a % n < n := Nat.mod_lt _ (by omega)
  rw [Nat.mod_add_mod]
  have h2 : k + (n - a % n) + a = k + n * (a / n + 1) := by
    have := Nat.div_add_mod a n
    rw [Nat.mul_add]
    omega
  rw [h2, Nat.add_mul_mod_self_left, Nat.mod_eq_of_lt hk]
theorem heard_same {l : List ByteArray} {c : Int} {n a : Nat} {L L' : List Pr} (hs : Srt L) (hs' : Srt L') (h : Heard l c id n L) (h' : Heard l c (fun j => (j + a) % n) n L') : L = L' := srt_ext hs hs' fun p => by
  rw [h, h']
  constructor
  · rintro ⟨j, hj, rfl⟩
    obtain ⟨i, hi, e⟩ := turn_all (a := a) hj
    exact ⟨i, hi, by show (c, nmAt l j) = (c, nmAt l ((i + a) % n)); rw [e]⟩
  · rintro ⟨j, hj, rfl⟩
    exact ⟨(j + a) % n, Nat.mod_lt _ (by omega), rfl⟩
/-- What they still have. -/
def Still (l : List ByteArray) (c : Int) (n i : Nat) (L : List Pr) : Prop := ∀ p ∈ L, ∃ j, i ≤ j ∧ j < n ∧ p = (c, nmAt l j)
theorem still_rem {l : List ByteArray} {c : Int} {n i : Nat} {L : List Pr} (h : Still l c n i L) : Still l c n (i + 1) (remP (c, nmAt l i) L) ∧ hearP (nmAt l i) (remP (c, nmAt l i) L) = [] := by
  refine ⟨fun p hp => ?_, ?_⟩
  · obtain ⟨h1, h2⟩ := mem_rem.1 hp
    obtain ⟨j, hj1, hj2, rfl⟩ := h p h1
    rcases (by omega : j = i ∨ i + 1 ≤ j) with rfl | h3
    · exact absurd rfl h2
    · exact ⟨j, h3, hj2, rfl⟩
  · rw [List.eq_nil_iff_forall_not_mem]
    intro a ha
    rw [mem_hear] at ha
    obtain ⟨h1, h2⟩ := mem_rem.1 ha
    obtain ⟨j, hj1, hj2, e⟩ := h _ h1
    have : a = c := congrArg Prod.fst e
    exact h2 (by rw [this])
theorem still_end {l : List ByteArray} {c : Int} {n : Nat} {L : List Pr} (h : Still l c n n L) : ofP c L = [] := by
  rw [List.eq_nil_iff_forall_not_mem]
  intro a ha
  obtain ⟨j, h1, h2, _⟩ := h _ (mem_of.1 ha)
  omega

set_option maxHeartbeats 4000000 in
set_option maxRecDepth 100000 in
theorem SubsTurns_walk (A1 : Option Addr) (l : List ByteArray) (c1 : Nat) (at_ c : Int) (w : World) (h1 : Kd.C Kd.string w A1 l.length l) (hc1 : l.length ≤ c1) (ha0 : 0 ≤ at_) (ha1 : at_ ≤ 255) (hc : (Lit.int .i64 c).wf = true) :
    Calls Try.prog 3 #[.slice A1 l.length c1, .int .u8 at_, .int .i64 c] w fun e w' => e = .returned (.bool true) ∧ Below w.heap.size w w' := by
  have H1 := Aside0.mk h1
  have HOK := Aside0.mk (fun s => ok_name hc s)
  obtain ⟨a, ha⟩ : ∃ a : Nat, at_ = a := ⟨at_.toNat, by omega⟩
  subst ha
  obtain ⟨n, hn⟩ : ∃ n : Nat, min l.length 8 = n := ⟨_, rfl⟩
  have hn8 : n ≤ 8 := by omega
  have hnl : n ≤ l.length := by omega
  have hnm : min (l.length : Int) 8 = n := by omega
  clear h1 hc hn
  go_enter Try.func3, Try.ntmps3
  go_wp2_with fail
  refine (shown_true _).mono ?_
  rintro e w1 ⟨rfl, HB1⟩
  go_wp2_with fail
  refine (new_s w w1 HB1.out).mono ?_
  rintro e w2 ⟨g, m, rfl, HS2, hg2, hm2, HB2⟩
  go_wp2_with fail
  refine (new_s w w2 HS2.out.below).mono ?_
  rintro e w3 ⟨g', m', rfl, HT3, hg3, hm3, HB3⟩
  have HS3 := Aside0.mk (HS2.out.next HB3.out)
  have hlt := HS2.out.subs.lt
  have hlt' := HT3.out.subs.lt
  have hsep : g ≠ m' ∧ m ≠ m' ∧ g' ≠ m ∧ m' ≠ m := by omega
  clear hlt hlt' hg2 hm2 hg3 hm3
  go_wp2
  go_loopw [11] (fun v11 wr => ∃ (i : Nat) (Ls Lt : List Pr), v11 = .int .i64 i ∧ i ≤ n ∧ Aside0 (SubSt w wr g m (2 * i) Ls) ∧ Aside0 (SubSt w wr g' m' i Lt) ∧ Aside0 (Heard l c id i Ls) ∧ Aside0 (Heard l c (fun j => (j + a) % n) i Lt)) (fun v11 _ => n - (match v11 with | .int _ i => i.toNat | _ => 0))
  case atStart => exact ⟨0, [], [], rfl, Nat.zero_le _, HS3, HT3, ⟨fun p => ⟨fun h => (by cases h), fun ⟨j, hj, _⟩ => (by omega)⟩⟩, ⟨fun p => ⟨fun h => (by cases h), fun ⟨j, hj, _⟩ => (by omega)⟩⟩⟩
  case round =>
    clear HS2 HS3 HT3
    obtain ⟨i, Ls, Lt, rfl, hi, HS, HT, HHs, HHt⟩ := hrel
    by_cases hlt : i < n
    · have hI : (i : Int) < n := by omega
      obtain ⟨ad, e0, hcell⟩ := (Kd.reads_of_C (d := ByteArray.empty) H1.out).2.2 (by omega)
      subst e0
      have d0 := (HS.out.below.cell (World.block_lt_of_cell? w _ (hcell i (by omega)))).trans (hcell i (by omega))
      obtain ⟨x, hx⟩ : ∃ x, l.getD i ByteArray.empty = x := ⟨_, rfl⟩
      rw [hx] at d0
      obtain ⟨y, hy⟩ : ∃ y, nameB x = y := ⟨_, rfl⟩
      have HXY := Aside0.mk (show nmAt l i = y by unfold nmAt; rw [hx, hy])
      have HY := Aside0.mk hy
      have HC := Aside0.mk hcell
      clear hcell hx hy
      go_wp2_with fail
      refine (name_any x wr).mono ?_
      rintro e w4 ⟨rfl, HB4⟩
      rw [HY.out]
      have HYO := Aside0.mk (show PrOk (c, y) by rw [← HY.out]; exact HOK.out x)
      have hT4 := HT.out.next HB4.out
      have HT4 := Aside0.mk hT4
      have hsrt := HS.out.subs.2.choose_spec.2.2.1
      have hlen := HS.out.subs.2.choose_spec.2.2.2.2
      obtain ⟨l5, hl5⟩ : ∃ l5, ofP c Ls = l5 := ⟨_, rfl⟩
      obtain ⟨q5, hq5⟩ : ∃ q, l5.length = q := ⟨_, rfl⟩
      have hq5l : q5 ≤ 16 := by rw [← hq5, ← hl5]; exact Nat.le_trans len_of (by omega)
      obtain ⟨fr, hfr⟩ : ∃ fr : Bool, fr = true ↔ y ∈ l5 := by
        by_cases h : y ∈ l5
        · exact ⟨true, by simp [h]⟩
        · exact ⟨false, by simp [h]⟩
      obtain ⟨q8, hq8⟩ : ∃ q, (ofP c (addP (c, y) Ls)).length = q := ⟨_, rfl⟩
      have hrel8 : q8 = if fr = true then q5 else q5 + 1 := by
        cases fr with
        | true =>
          rw [if_pos rfl, ← hq8, add_there hsrt (mem_of.1 (by rw [hl5]; exact hfr.1 rfl)), hl5, hq5]
        | false =>
          have hn : y ∉ ofP c Ls := by rw [hl5]; exact fun h => by have := hfr.2 h; cases this
          rw [if_neg (by decide), ← hq8, add_fresh hsrt hn, hl5, hq5]
      have haa : addP (c, y) (addP (c, y) Ls) = addP (c, y) Ls := add_there (srt_add hsrt) (mem_add.2 (.inl rfl))
      obtain ⟨k2, hk2⟩ : ∃ k2 : Nat, (i + a) % n = k2 := ⟨_, rfl⟩
      have hk2n : k2 < n := by rw [← hk2]; exact Nat.mod_lt _ (by omega)
      have hmod : ((i : Int) + a) % n = k2 := by rw [← hk2]; rfl
      obtain ⟨x2, hx2⟩ : ∃ x2, l.getD k2 ByteArray.empty = x2 := ⟨_, rfl⟩
      obtain ⟨y2, hy2⟩ : ∃ y2, nameB x2 = y2 := ⟨_, rfl⟩
      obtain ⟨q9, hq9⟩ : ∃ q, (ofP c (addP (c, y2) Lt)).length = q := ⟨_, rfl⟩
      have hhs := heard_add HHs.out
      have hhs' : Heard l c id (i + 1) (addP (c, y) Ls) := by rw [← HXY.out]; exact hhs
      have hht : Heard l c (fun j => (j + a) % n) (i + 1) (addP (c, y2) Lt) := by
        have h := heard_add HHt.out
        simp only [hk2] at h
        have e : nmAt l k2 = y2 := by unfold nmAt; rw [hx2, hy2]
        rw [e] at h
        exact h
      have HL5 := Aside0.mk hl5
      have HQ5 := Aside0.mk hq5
      have HFR := Aside0.mk hfr
      have HQ8 := Aside0.mk hq8
      have HR8 := Aside0.mk hrel8
      have HAA := Aside0.mk haa
      have HQ88 := Aside0.mk (show (ofP c (addP (c, y) (addP (c, y) Ls))).length = q8 by rw [haa, hq8])
      have HX2 := Aside0.mk hx2
      have HY2 := Aside0.mk hy2
      have HYO2 := Aside0.mk (show PrOk (c, y2) by rw [← hy2]; exact HOK.out x2)
      have HQ9 := Aside0.mk hq9
      have HHs1 := Aside0.mk hhs'
      have HHt1 := Aside0.mk hht
      clear hT4 hsrt hlen hl5 hq5 hfr hq8 hrel8 haa hk2 hx2 hy2 hq9 hhs hhs' hht
      go_wp2_with fail
      refine (of_s g m (2 * i) Ls c w4 (HS.out.next HB4.out) (by omega) l5 HL5.out q5 HQ5.out).mono ?_
      rintro e w5 ⟨A5, k5, rfl, hk5, HC5, HS5, HB5⟩
      go_wp2_with fail
      refine (in_any A5 k5 l5 y q5 HQ5.out w5 HC5.out hk5 (by omega) fr HFR.out).mono ?_
      rintro e w6 ⟨rfl, HB6⟩
      go_wp2_with fail
      refine (of_s g m (2 * i) Ls c w6 (HS5.out.next HB6.out) (by omega) l5 HL5.out q5 HQ5.out).mono ?_
      rintro e w7 ⟨A7, k7, rfl, hk7, HC7, HS7, HB7⟩
      have HT7 := Aside0.mk (((HT4.out.next HB5.out).next HB6.out).next HB7.out)
      go_wp2_with fail
      refine (add_s g m (2 * i) Ls c y w7 HS7.out (by omega) HYO.out q8 HQ8.out).mono ?_
      rintro e w8 ⟨rfl, HS8, HK8⟩
      have HT8 := Aside0.mk (HT7.out.other HK8.out hsep.2.2.1 hsep.2.2.2 HS.out.hm)
      cases fr with
      | true =>
        have hq8e : q8 = q5 := HR8.out
        have hq8z : (q8 : Int) = q5 := by omega
        clear hq8e
        go_wp2_with fail
        refine (add_s g m (2 * i + 1) (addP (c, y) Ls) c y w8 HS8.out (by omega) HYO.out q8 HQ88.out).mono ?_
        rintro e w9 ⟨rfl, HS9, HK9⟩
        rw [HAA.out] at HS9
        have HT9 := Aside0.mk (HT8.out.other HK9.out hsep.2.2.1 hsep.2.2.2 HS.out.hm)
        have d9 := (HS9.out.below.cell (World.block_lt_of_cell? w _ (HC.out k2 (by omega)))).trans (HC.out k2 (by omega))
        rw [HX2.out] at d9
        go_wp2_with fail
        refine (name_any x2 w9).mono ?_
        rintro e w10 ⟨rfl, HB10⟩
        rw [HY2.out]
        go_wp2_with fail
        refine (add_s g' m' i Lt c y2 w10 (HT9.out.next HB10.out) (by omega) HYO2.out q9 HQ9.out).mono ?_
        rintro e w11 ⟨rfl, HT11, HK11⟩
        have HS11 := Aside0.mk ((HS9.out.next HB10.out).other HK11.out hsep.1 hsep.2.1 HT.out.hm)
        go_wp2
        exact ⟨⟨i + 1, _, _, by simp, by omega, HS11, HT11, HHs1, HHt1⟩, by simp; omega⟩
      | false =>
        have hq8e : q8 = q5 + 1 := HR8.out
        have hq8z : (q8 : Int) = q5 + 1 := by omega
        clear hq8e
        go_wp2_with fail
        refine (add_s g m (2 * i + 1) (addP (c, y) Ls) c y w8 HS8.out (by omega) HYO.out q8 HQ88.out).mono ?_
        rintro e w9 ⟨rfl, HS9, HK9⟩
        rw [HAA.out] at HS9
        have HT9 := Aside0.mk (HT8.out.other HK9.out hsep.2.2.1 hsep.2.2.2 HS.out.hm)
        have d9 := (HS9.out.below.cell (World.block_lt_of_cell? w _ (HC.out k2 (by omega)))).trans (HC.out k2 (by omega))
        rw [HX2.out] at d9
        go_wp2_with fail
        refine (name_any x2 w9).mono ?_
        rintro e w10 ⟨rfl, HB10⟩
        rw [HY2.out]
        go_wp2_with fail
        refine (add_s g' m' i Lt c y2 w10 (HT9.out.next HB10.out) (by omega) HYO2.out q9 HQ9.out).mono ?_
        rintro e w11 ⟨rfl, HT11, HK11⟩
        have HS11 := Aside0.mk ((HS9.out.next HB10.out).other HK11.out hsep.1 hsep.2.1 HT.out.hm)
        go_wp2
        exact ⟨⟨i + 1, _, _, by simp, by omega, HS11, HT11, HHs1, HHt1⟩, by simp; omega⟩
    · obtain rfl : n = i := by omega
      have hI : ¬ ((n : Int) < n) := by omega
      obtain rfl : Ls = Lt := heard_same HS.out.subs.2.choose_spec.2.2.1 HT.out.subs.2.choose_spec.2.2.1 HHs.out HHt.out
      have HST := Aside0.mk (show Still l c n 0 Ls from fun p hp => by
        obtain ⟨j, hj, rfl⟩ := (HHs.out p).1 hp
        exact ⟨j, by omega, hj, rfl⟩)
      obtain ⟨l5, hl5⟩ : ∃ l5, ofP c Ls = l5 := ⟨_, rfl⟩
      obtain ⟨q5, hq5⟩ : ∃ q, l5.length = q := ⟨_, rfl⟩
      have hlen := HS.out.subs.2.choose_spec.2.2.2.2
      have hq5l : q5 ≤ 16 := by rw [← hq5, ← hl5]; exact Nat.le_trans len_of (by omega)
      have HL5 := Aside0.mk hl5
      have HQ5 := Aside0.mk hq5
      clear hlen hl5 hq5 HHs HHt hlt
      go_wp2_with fail
      refine (of_s g m (2 * n) Ls c wr HS.out (by omega) l5 HL5.out q5 HQ5.out).mono ?_
      rintro e w4 ⟨A4, k4, rfl, hk4, HC4, HS4, HB4⟩
      go_wp2_with fail
      refine (of_s g' m' n Ls c w4 (HT.out.next HB4.out) (by omega) l5 HL5.out q5 HQ5.out).mono ?_
      rintro e w5 ⟨A5, k5, rfl, hk5, HC5, HT5, HB5⟩
      go_wp2_with fail
      refine (texts_same A4 A5 k4 k5 l5 q5 q5 HQ5.out HQ5.out w5 (Kd.C_below HC4.out HB5.out) hk4 HC5.out hk5 (by omega)).mono ?_
      rintro e w6 ⟨rfl, HB6⟩
      have HS6 := Aside0.mk ((HS4.out.next HB5.out).next HB6.out)
      clear HS HT HT5 HS4 HB4 HB5 HB6 HC4 HC5 hI HL5 HQ5 hi hk4 hk5 hq5l
      go_wp2
      go_loopw [17] (fun v17 wr => ∃ (i : Nat) (L : List Pr), v17 = .int .i64 i ∧ i ≤ n ∧ Aside0 (SubSt w wr g m (2 * n) L) ∧ Aside0 (Still l c n i L)) (fun v17 _ => n - (match v17 with | .int _ i => i.toNat | _ => 0))
      case atStart => exact ⟨0, Ls, rfl, Nat.zero_le _, HS6, HST⟩
      case round =>
        clear HS6 HST
        obtain ⟨i, L, rfl, hi, HS, HST⟩ := hrel
        by_cases hlt : i < n
        · have hI : (i : Int) < n := by omega
          obtain ⟨ad, e0, hcell⟩ := (Kd.reads_of_C (d := ByteArray.empty) H1.out).2.2 (by omega)
          subst e0
          have d0 := (HS.out.below.cell (World.block_lt_of_cell? w _ (hcell i (by omega)))).trans (hcell i (by omega))
          obtain ⟨x, hx⟩ : ∃ x, l.getD i ByteArray.empty = x := ⟨_, rfl⟩
          rw [hx] at d0
          obtain ⟨y, hy⟩ : ∃ y, nameB x = y := ⟨_, rfl⟩
          have hxy : nmAt l i = y := by unfold nmAt; rw [hx, hy]
          have HY := Aside0.mk hy
          have HYO := Aside0.mk (show PrOk (c, y) by rw [← hy]; exact HOK.out x)
          have hst := still_rem HST.out
          rw [hxy] at hst
          have HST1 := Aside0.mk hst.1
          have HHE := Aside0.mk hst.2
          have hsrt := HS.out.subs.2.choose_spec.2.2.1
          have hlen := HS.out.subs.2.choose_spec.2.2.2.2
          obtain ⟨l5, hl5⟩ : ∃ l5, ofP c L = l5 := ⟨_, rfl⟩
          obtain ⟨q5, hq5⟩ : ∃ q, l5.length = q := ⟨_, rfl⟩
          have hq5l : q5 ≤ 16 := by rw [← hq5, ← hl5]; exact Nat.le_trans len_of (by omega)
          obtain ⟨fr, hfr⟩ : ∃ fr : Bool, fr = true ↔ y ∈ l5 := by
            by_cases h : y ∈ l5
            · exact ⟨true, by simp [h]⟩
            · exact ⟨false, by simp [h]⟩
          obtain ⟨q8, hq8⟩ : ∃ q, (ofP c (remP (c, y) L)).length = q := ⟨_, rfl⟩
          have hrel8 : if fr = true then (q8 : Int) = q5 - 1 else (q8 : Int) = q5 := by
            cases fr with
            | true =>
              have := rem_there (s := y) hsrt (by rw [hl5]; exact hfr.1 rfl)
              rw [hl5, hq5, hq8] at this
              rw [if_pos rfl]
              omega
            | false =>
              have hn : (c, y) ∉ L := fun h => by
                have h2 := mem_of.2 h
                rw [hl5] at h2
                have := hfr.2 h2
                cases this
              rw [if_neg (by decide), ← hq8, rem_not hn, hl5, hq5]
          have HL5 := Aside0.mk hl5
          have HQ5 := Aside0.mk hq5
          have HFR := Aside0.mk hfr
          have HQ8 := Aside0.mk hq8
          have HR8 := Aside0.mk hrel8
          clear hcell hx hy hxy hst hsrt hlen hl5 hq5 hfr hq8 hrel8
          go_wp2_with fail
          refine (name_any x wr).mono ?_
          rintro e w4 ⟨rfl, HB4⟩
          rw [HY.out]
          go_wp2_with fail
          refine (of_s g m (2 * n) L c w4 (HS.out.next HB4.out) (by omega) l5 HL5.out q5 HQ5.out).mono ?_
          rintro e w5 ⟨A5, k5, rfl, hk5, HC5, HS5, HB5⟩
          go_wp2_with fail
          refine (of_s g m (2 * n) L c w5 HS5.out (by omega) l5 HL5.out q5 HQ5.out).mono ?_
          rintro e w6 ⟨A6, k6, rfl, hk6, HC6, HS6, HB6⟩
          go_wp2_with fail
          refine (in_any A6 k6 l5 y q5 HQ5.out w6 HC6.out hk6 (by omega) fr HFR.out).mono ?_
          rintro e w7 ⟨rfl, HB7⟩
          go_wp2_with fail
          refine (remove_s g m (2 * n) L c y w7 (HS6.out.next HB7.out) (by omega) HYO.out q8 HQ8.out).mono ?_
          rintro e w8 ⟨rfl, HS8, HK8⟩
          cases fr with
          | true =>
            have hq8z : (q8 : Int) = q5 - 1 := HR8.out
            go_wp2_with fail
            refine (hear_s g m (2 * n) (remP (c, y) L) y w8 HS8.out (by omega) [] HHE.out 0 rfl).mono ?_
            rintro e w9 ⟨A9, k9, rfl, _, _, HS9, _⟩
            go_wp2
            exact ⟨⟨i + 1, _, by simp, by omega, HS9, HST1⟩, by simp; omega⟩
          | false =>
            have hq8z : (q8 : Int) = q5 := HR8.out
            go_wp2_with fail
            refine (hear_s g m (2 * n) (remP (c, y) L) y w8 HS8.out (by omega) [] HHE.out 0 rfl).mono ?_
            rintro e w9 ⟨A9, k9, rfl, _, _, HS9, _⟩
            go_wp2
            exact ⟨⟨i + 1, _, by simp, by omega, HS9, HST1⟩, by simp; omega⟩
        · obtain rfl : i = n := by omega
          have hI : ¬ ((i : Int) < i) := by omega
          go_wp2_with fail
          refine (of_s g m (2 * i) L c wr HS.out (by omega) [] (still_end HST.out) 0 rfl).mono ?_
          rintro e w4 ⟨A4, k4, rfl, _, _, HS4, _⟩
          go_wp2
          go_ret
          exact ⟨rfl, HS4.out.below⟩
end Go.Proofs.Ytjcmmlbonljcnaa.X
