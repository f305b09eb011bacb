/- SubsPlays: its walk. -/
import Derived.Test.YtjcmmlbonljcnaaRfTwo
import Derived.Test.YtjcmmlbonljcnaaHBoth
import Derived.Deep.RegionHeld3
set_option linter.unusedVariables false
set_option linter.unusedSimpArgs false
namespace Go.Proofs.Ytjcmmlbonljcnaa.X
open Go.RowKit Go.Maps Go.ChangeMaps Go.MapKept Go.Proofs.Ytjcmmlbonljcnaa.Mv Go.Proofs.YtjcmmlbonljcnaaW.PrintWords

theorem wf_u8a {x : Int} (h : (Lit.int .u8 x).wf = true) : 0 ≤ x ∧ x ≤ 255 := by
  have e1 : IntKind.u8.min = 0 := rfl
  have e2 : IntKind.u8.max = 255 := rfl
  simpa [Lit.wf, e1, e2] using h
set_option maxHeartbeats 4000000 in
set_option maxRecDepth 100000 in
theorem SubsPlays_walk (A1 : Option Addr) (l : OpL) (c1 : Nat) (w : World) (h1 : kOp.C w A1 l.length l) (hc1 : l.length ≤ c1) (hok : ∀ o ∈ l, (Lit.int .u8 o.1).wf = true ∧ (Lit.int .i64 o.2.1).wf = true) :
    Calls Try.prog 4 #[.slice A1 l.length c1] w fun e w' => e = .returned (.bool true) ∧ Below w.heap.size w w' := by
  have H1 := Aside0.mk h1
  have HOK := Aside0.mk hok
  clear h1 hok
  go_enter Try.func4, Try.ntmps4
  go_wp2_with fail
  refine (shown_true _).mono ?_
  rintro e w1 ⟨rfl, HB1⟩
  go_wp2_with fail
  refine (new_s w w1 HB1.out).mono ?_
  rintro e w2 ⟨g, m, rfl, HS2, hg2, hm2, HB2⟩
  have hlt := HS2.out.subs.lt
  have hsz := HS2.out.below.size
  obtain ⟨w3, hw3⟩ : ∃ w3, w2.alloc (.cells #[.slice none 0 0] 38) = w3 := ⟨_, rfl⟩
  have HM3 := Aside0.mk (show Mix w w3 g m 0 w2.heap.size [] [] by
    refine ⟨HS2.out.next ?_, ⟨.slice none 0 0, ?_, Kd.R_nil _ _ _ _ _⟩, hsz, by omega, by omega⟩
    · rw [← hw3]; exact below_alloc (Below.refl _ _) _
    · rw [← hw3]; have := heap_alloc_new w2 (.cells #[.slice none 0 0] 38); simpa using this)
  obtain ⟨r, hr⟩ : ∃ r, w2.heap.size = r := ⟨_, rfl⟩
  have HR := Aside0.mk hr
  rw [hr] at HM3
  clear hlt hsz hg2 hm2
  go_wp2
  go_loopw [6] (fun v6 wr => ∃ (i : Nat) (L : List Pr), v6 = .int .i64 i ∧ i ≤ 60 ∧ i ≤ l.length ∧ Aside0 (Mix w wr g m i r L L)) (fun v6 _ => 60 - (match v6 with | .int _ i => i.toNat | _ => 0))
  case atStart => exact ⟨0, [], rfl, Nat.zero_le _, Nat.zero_le _, HM3⟩
  case round =>
    clear HM3 HS2 HB2 HB1 hw3
    obtain ⟨i, L, rfl, hi, hil, HM⟩ := hrel
    by_cases hlt : i < l.length ∧ i < 60
    · obtain ⟨hl1, hl2⟩ := hlt
      have hI1 : (i : Int) < l.length := by omega
      have hI2 : (i : Int) < 60 := by omega
      obtain ⟨ad, e0, _⟩ := (H1.out).2.2 (by omega)
      subst e0
      obtain ⟨d0, d1, d2⟩ := op_cells (Kd.C_below H1.out HM.out.subs.below) (i := i) hl1
      have hon := HOK.out _ (List.getElem_mem hl1)
      rw [show l[i] = l.getD i op0 by rw [List.getD_eq_getElem?_getD, List.getElem?_eq_getElem hl1]; rfl] at hon
      obtain ⟨o, ho⟩ : ∃ o, l.getD i op0 = o := ⟨_, rfl⟩
      obtain ⟨p, hp⟩ : ∃ p, ad.add (i * 3) = p := ⟨_, rfl⟩
      rw [ho, hp] at d0 d1 d2
      rw [ho] at hon
      obtain ⟨k, c, s⟩ := o
      simp only at d0 d1 d2 hon
      have hk := wf_u8a hon.1
      have HPO := Aside0.mk (ok_name hon.2 s)
      obtain ⟨t, ht⟩ : ∃ t, nameB s = t := ⟨_, rfl⟩
      rw [ht] at HPO
      have HT := Aside0.mk ht
      have hlen := HM.out.len
      clear ho ht hon
      go_wp2_with fail
      obtain ⟨w4, hw4⟩ : ∃ w4, wr.alloc (.cells #[.int .u8 k, .int .i64 c, .string s] 40) = w4 := ⟨_, rfl⟩
      have HA4 := Aside0.mk (show Below wr.heap.size wr w4 by rw [← hw4]; exact below_alloc (Below.refl _ _) _)
      have HC4 := Aside0.mk (show w4.heap[wr.heap.size]? = some (.cells #[.int .u8 k, .int .i64 c, .string s] 40 (0, 0)) by rw [← hw4]; have := heap_alloc_new wr (.cells #[.int .u8 k, .int .i64 c, .string s] 40); simpa using this)
      have hl2 := HM.out.subs.subs.lt
      have hrr := pwlt (HM.out.rf.row.choose_spec.1)
      rw [hw4]
      obtain ⟨ob, hob⟩ : ∃ ob, wr.heap.size = ob := ⟨_, rfl⟩
      have HOB := Aside0.mk (show ¬ K2 m r ob by intro h; rcases h with h | h <;> omega)
      rw [hob] at HC4 ⊢
      clear hw4 hob hl2 hrr d0 d1 d2
      refine (name_any s w4).mono ?_
      rintro e w5 ⟨rfl, HB5⟩
      rw [HT.out]
      have HC5 := Aside0.mk ((HB5.out.block ob (pwlt HC4.out)).trans HC4.out)
      have i0 : w5.cell? ⟨ob, 0, none⟩ = some (.int .u8 k) := by simp [World.cell?, HC5.out]
      have i1 : w5.cell? ⟨ob, 1, none⟩ = some (.int .i64 c) := by simp [World.cell?, HC5.out]
      have HM5 := Aside0.mk ((HM.out.next HA4.out).next HB5.out)
      have HM5d := Aside0.mk (HM5.out.next (w1 := w5.drew) ⟨rfl, rfl, rfl, Nat.le_refl _, fun _ _ => rfl⟩)
      by_cases hk2 : k % 4 = 2
      · obtain ⟨q, hq⟩ : ∃ q, (ofP c (remP (c, t) L)).length = q := ⟨_, rfl⟩
        have HQ := Aside0.mk hq
        clear hq
        go_wp2_with fail
        go_region_held3 (fun wz => wz.cell? ⟨ob, 1, none⟩ = some (.int .i64 c)) (first | exact i1 | exact j1 | exact x1) (first
          | (go_at_call 14
             refine (m_remove c t HM5d.out (by omega) HPO.out q HQ.out).mono ?_
             rintro e w6 ⟨rfl, HM6, HK6⟩
             have j1 := HK6.out.cell i1 HOB.out)
          | (go_at_call 16
             refine (r_remove c t HM6.out (by omega) q HQ.out).mono ?_
             rintro e w7 ⟨rfl, HM7, HK7⟩
             have x1 := HK7.out.cell j1 HOB.out))
        obtain ⟨L7, hL7⟩ : ∃ L7, remP (c, t) L = L7 := ⟨_, rfl⟩
        rw [hL7] at HM7
        clear hL7
        have hlen7 := HM7.out.len
        obtain ⟨la, hla⟩ : ∃ la, ofP c L7 = la := ⟨_, rfl⟩
        obtain ⟨qa, hqa⟩ : ∃ q, la.length = q := ⟨_, rfl⟩
        obtain ⟨lb, hlb⟩ : ∃ lb, hearP t L7 = lb := ⟨_, rfl⟩
        obtain ⟨qb, hqb⟩ : ∃ q, lb.length = q := ⟨_, rfl⟩
        have hqal : qa ≤ 1000 := by rw [← hqa, ← hla]; exact Nat.le_trans len_of (by omega)
        have hqbl : qb ≤ 1000 := by rw [← hqb, ← hlb]; exact Nat.le_trans len_hear (by omega)
        have HLa := Aside0.mk hla
        have HQa := Aside0.mk hqa
        have HLb := Aside0.mk hlb
        have HQb := Aside0.mk hqb
        clear hla hqa hlb hqb
        go_wp2_with fail
        have HMd := Aside0.mk (HM7.out.next (pw_below_drewN (Below.refl _ _) 1))
        go_region_held3 (fun wz => wz.cell? ⟨ob, 1, none⟩ = some (.int .i64 c)) (first | exact x1 | exact y1 | exact y2 | exact y3) (first
          | (go_at_call 11
             refine (m_of c HMd.out (by omega) la HLa.out qa HQa.out).mono ?_
             rintro e wa ⟨Aa, ka, rfl, hka, HCa, HMa, HBa⟩
             have y1 := (HBa.out.cell (World.block_lt_of_cell? _ _ x1)).trans x1)
          | (go_at_call 20
             refine (r_of c HMa.out (by omega) la HLa.out qa HQa.out).mono ?_
             rintro e wb ⟨Ab, kb, rfl, hkb, HCb, HMb, HBb⟩
             have HCab := Aside0.mk (Kd.C_below HCa.out HBb.out)
             have y2 := (HBb.out.cell (World.block_lt_of_cell? _ _ y1)).trans y1)
          | (go_at_call 13
             refine (texts_same Aa Ab ka kb la qa qa HQa.out HQa.out _ HCab.out hka HCb.out hkb (by omega)).mono ?_
             rintro e wc ⟨rfl, HBc⟩
             have HMc := Aside0.mk (HMb.out.next HBc.out)
             have y3 := (HBc.out.cell (World.block_lt_of_cell? _ _ y2)).trans y2))
        go_wp2_with fail
        refine (m_hear t HMc.out (by omega) lb HLb.out qb HQb.out).mono ?_
        rintro e wd ⟨Ad, kd, rfl, hkd, HCd, HMd2, HBd⟩
        go_wp2_with fail
        refine (r_hear t HMd2.out (by omega) lb HLb.out qb HQb.out).mono ?_
        rintro e we ⟨Ae, ke, rfl, hke, HCe, HMe, HBe⟩
        go_wp2_with fail
        refine (ints_same Ad Ae kd ke lb qb qb HQb.out HQb.out we (Kd.C_below HCd.out HBe.out) hkd HCe.out hke (by omega)).mono ?_
        rintro e wf ⟨rfl, HBf⟩
        go_wp2
        exact ⟨⟨i + 1, L7, by simp, by omega, by omega, ⟨(HMe.out.next HBf.out).mono (by omega)⟩⟩, by simp; omega⟩
      · by_cases hk3 : k % 4 = 3
        · go_wp2_with fail
          refine (m_drop c HM5.out).mono ?_
          rintro e w6 ⟨rfl, HM6, HK6⟩
          have j1 := HK6.out.cell i1 HOB.out
          go_wp2_with fail
          refine (r_drop c HM6.out (by omega)).mono ?_
          rintro e w7 ⟨rfl, HM7, HK7⟩
          have x1 := HK7.out.cell j1 HOB.out
          obtain ⟨L7, hL7⟩ : ∃ L7, dropP c L = L7 := ⟨_, rfl⟩
          rw [hL7] at HM7
          clear hL7
          have hlen7 := HM7.out.len
          obtain ⟨la, hla⟩ : ∃ la, ofP c L7 = la := ⟨_, rfl⟩
          obtain ⟨qa, hqa⟩ : ∃ q, la.length = q := ⟨_, rfl⟩
          obtain ⟨lb, hlb⟩ : ∃ lb, hearP t L7 = lb := ⟨_, rfl⟩
          obtain ⟨qb, hqb⟩ : ∃ q, lb.length = q := ⟨_, rfl⟩
          have hqal : qa ≤ 1000 := by rw [← hqa, ← hla]; exact Nat.le_trans len_of (by omega)
          have hqbl : qb ≤ 1000 := by rw [← hqb, ← hlb]; exact Nat.le_trans len_hear (by omega)
          have HLa := Aside0.mk hla
          have HQa := Aside0.mk hqa
          have HLb := Aside0.mk hlb
          have HQb := Aside0.mk hqb
          clear hla hqa hlb hqb
          go_wp2_with fail
          have HMd := Aside0.mk (HM7.out.next (pw_below_drewN (Below.refl _ _) 1))
          go_region_held3 (fun wz => wz.cell? ⟨ob, 1, none⟩ = some (.int .i64 c)) (first | exact x1 | exact y1 | exact y2 | exact y3) (first
            | (go_at_call 11
               refine (m_of c HMd.out (by omega) la HLa.out qa HQa.out).mono ?_
               rintro e wa ⟨Aa, ka, rfl, hka, HCa, HMa, HBa⟩
               have y1 := (HBa.out.cell (World.block_lt_of_cell? _ _ x1)).trans x1)
            | (go_at_call 20
               refine (r_of c HMa.out (by omega) la HLa.out qa HQa.out).mono ?_
               rintro e wb ⟨Ab, kb, rfl, hkb, HCb, HMb, HBb⟩
               have HCab := Aside0.mk (Kd.C_below HCa.out HBb.out)
               have y2 := (HBb.out.cell (World.block_lt_of_cell? _ _ y1)).trans y1)
            | (go_at_call 13
               refine (texts_same Aa Ab ka kb la qa qa HQa.out HQa.out _ HCab.out hka HCb.out hkb (by omega)).mono ?_
               rintro e wc ⟨rfl, HBc⟩
               have HMc := Aside0.mk (HMb.out.next HBc.out)
               have y3 := (HBc.out.cell (World.block_lt_of_cell? _ _ y2)).trans y2))
          go_wp2_with fail
          refine (m_hear t HMc.out (by omega) lb HLb.out qb HQb.out).mono ?_
          rintro e wd ⟨Ad, kd, rfl, hkd, HCd, HMd2, HBd⟩
          go_wp2_with fail
          refine (r_hear t HMd2.out (by omega) lb HLb.out qb HQb.out).mono ?_
          rintro e we ⟨Ae, ke, rfl, hke, HCe, HMe, HBe⟩
          go_wp2_with fail
          refine (ints_same Ad Ae kd ke lb qb qb HQb.out HQb.out we (Kd.C_below HCd.out HBe.out) hkd HCe.out hke (by omega)).mono ?_
          rintro e wf ⟨rfl, HBf⟩
          go_wp2
          exact ⟨⟨i + 1, L7, by simp, by omega, by omega, ⟨(HMe.out.next HBf.out).mono (by omega)⟩⟩, by simp; omega⟩
        · obtain ⟨q, hq⟩ : ∃ q, (ofP c (addP (c, t) L)).length = q := ⟨_, rfl⟩
          have HQ := Aside0.mk hq
          clear hq
          go_wp2_with fail
          go_region_held3 (fun wz => wz.cell? ⟨ob, 1, none⟩ = some (.int .i64 c)) (first | exact i1 | exact j1 | exact x1) (first
            | (go_at_call 12
               refine (m_add c t HM5d.out (by omega) HPO.out q HQ.out).mono ?_
               rintro e w6 ⟨rfl, HM6, HK6⟩
               have j1 := HK6.out.cell i1 HOB.out)
            | (go_at_call 19
               refine (r_add c t HM6.out (by omega) q HQ.out).mono ?_
               rintro e w7 ⟨rfl, HM7, HK7⟩
               have x1 := HK7.out.cell j1 HOB.out))
          obtain ⟨L7, hL7⟩ : ∃ L7, addP (c, t) L = L7 := ⟨_, rfl⟩
          rw [hL7] at HM7
          clear hL7
          have hlen7 := HM7.out.len
          obtain ⟨la, hla⟩ : ∃ la, ofP c L7 = la := ⟨_, rfl⟩
          obtain ⟨qa, hqa⟩ : ∃ q, la.length = q := ⟨_, rfl⟩
          obtain ⟨lb, hlb⟩ : ∃ lb, hearP t L7 = lb := ⟨_, rfl⟩
          obtain ⟨qb, hqb⟩ : ∃ q, lb.length = q := ⟨_, rfl⟩
          have hqal : qa ≤ 1000 := by rw [← hqa, ← hla]; exact Nat.le_trans len_of (by omega)
          have hqbl : qb ≤ 1000 := by rw [← hqb, ← hlb]; exact Nat.le_trans len_hear (by omega)
          have HLa := Aside0.mk hla
          have HQa := Aside0.mk hqa
          have HLb := Aside0.mk hlb
          have HQb := Aside0.mk hqb
          clear hla hqa hlb hqb
          go_wp2_with fail
          have HMd := Aside0.mk (HM7.out.next (pw_below_drewN (Below.refl _ _) 1))
          go_region_held3 (fun wz => wz.cell? ⟨ob, 1, none⟩ = some (.int .i64 c)) (first | exact x1 | exact y1 | exact y2 | exact y3) (first
            | (go_at_call 11
               refine (m_of c HMd.out (by omega) la HLa.out qa HQa.out).mono ?_
               rintro e wa ⟨Aa, ka, rfl, hka, HCa, HMa, HBa⟩
               have y1 := (HBa.out.cell (World.block_lt_of_cell? _ _ x1)).trans x1)
            | (go_at_call 20
               refine (r_of c HMa.out (by omega) la HLa.out qa HQa.out).mono ?_
               rintro e wb ⟨Ab, kb, rfl, hkb, HCb, HMb, HBb⟩
               have HCab := Aside0.mk (Kd.C_below HCa.out HBb.out)
               have y2 := (HBb.out.cell (World.block_lt_of_cell? _ _ y1)).trans y1)
            | (go_at_call 13
               refine (texts_same Aa Ab ka kb la qa qa HQa.out HQa.out _ HCab.out hka HCb.out hkb (by omega)).mono ?_
               rintro e wc ⟨rfl, HBc⟩
               have HMc := Aside0.mk (HMb.out.next HBc.out)
               have y3 := (HBc.out.cell (World.block_lt_of_cell? _ _ y2)).trans y2))
          go_wp2_with fail
          refine (m_hear t HMc.out (by omega) lb HLb.out qb HQb.out).mono ?_
          rintro e wd ⟨Ad, kd, rfl, hkd, HCd, HMd2, HBd⟩
          go_wp2_with fail
          refine (r_hear t HMd2.out (by omega) lb HLb.out qb HQb.out).mono ?_
          rintro e we ⟨Ae, ke, rfl, hke, HCe, HMe, HBe⟩
          go_wp2_with fail
          refine (ints_same Ad Ae kd ke lb qb qb HQb.out HQb.out we (Kd.C_below HCd.out HBe.out) hkd HCe.out hke (by omega)).mono ?_
          rintro e wf ⟨rfl, HBf⟩
          go_wp2
          exact ⟨⟨i + 1, L7, by simp, by omega, by omega, ⟨(HMe.out.next HBf.out).mono (by omega)⟩⟩, by simp; omega⟩
    · have hcs : ¬ ((i : Int) < l.length) ∨ ((i : Int) < l.length ∧ ¬ ((i : Int) < 60)) := by omega
      rcases hcs with hc9 | ⟨hc8, hc9⟩
      · go_wp2
        go_ret
        exact ⟨rfl, HM.out.subs.below⟩
      · go_wp2
        go_ret
        exact ⟨rfl, HM.out.subs.below⟩
end Go.Proofs.Ytjcmmlbonljcnaa.X
