/- The document's disk: walks of Crash and Save. -/
import Derived.Test.YtdjbapbfbgcfjaaRefD
set_option linter.unusedVariables false
set_option linter.unusedSimpArgs false
namespace Go.Proofs.Ytdjbapbfbgcfjaa
open Go.RowKit Go.Maps Go.ChangeMaps Go.MapKept Mv Go.Proofs.YtdjbapbfbgcfjaaW.PrintWords

def crR (keep : Int) (f : Fl) : Fl := if f.s = true then f else ⟨f.nm, cutB keep f.b, true⟩
/-- The first k of the files have gone through the crash. -/
def Half (keep : Int) (fs fs' : List Fl) (k : Nat) : Prop := fs'.length = fs.length ∧ ∀ (j : Nat), (j < k → fs'[j]? = (fs[j]?).map (crR keep)) ∧ (k ≤ j → fs'[j]? = fs[j]?)
theorem Half.start (keep : Int) (fs : List Fl) : Half keep fs fs 0 := ⟨rfl, fun j => ⟨fun h => absurd h (by omega), fun _ => rfl⟩⟩
theorem Half.stay {keep : Int} {fs fs' : List Fl} {k : Nat} {f : Fl} (h : Half keep fs fs' k) (hf : fs[k]? = some f) (hs : f.s = true) : Half keep fs fs' (k + 1) :=
  ⟨h.1, fun j => ⟨fun hj => by
    by_cases e : j = k
    · subst e
      rw [(h.2 j).2 (Nat.le_refl _), hf]
      simp [crR, hs]
    · exact (h.2 j).1 (by omega), fun hj => (h.2 j).2 (by omega)⟩⟩
theorem Half.turn {keep : Int} {fs fs' : List Fl} {k : Nat} {f : Fl} (h : Half keep fs fs' k) (hf : fs[k]? = some f) (hs : f.s = false) {g g2 : Fl} (hg : g2 = ⟨f.nm, cutB keep f.b, true⟩) : Half keep fs ((fs'.set k g).set k g2) (k + 1) := by
  have hk := (List.getElem?_eq_some_iff.1 hf).1
  refine ⟨by simp [h.1], fun j => ⟨fun hj => ?_, fun hj => ?_⟩⟩
  · by_cases e : j = k
    · subst e
      rw [List.getElem?_set_self (by simp [h.1]; exact hk), hf, hg]
      simp [crR, hs]
    · rw [List.getElem?_set_ne (fun e' => e e'.symm), List.getElem?_set_ne (fun e' => e e'.symm)]
      exact (h.2 j).1 (by omega)
  · rw [List.getElem?_set_ne (by omega), List.getElem?_set_ne (by omega)]
    exact (h.2 j).2 (by omega)
theorem Half.done {keep : Int} {fs fs' : List Fl} (h : Half keep fs fs' fs.length) : fs' = fs.map (crR keep) := by
  apply List.ext_getElem?
  intro j
  by_cases hj : j < fs.length
  · rw [(h.2 j).1 hj, List.getElem?_map]
  · rw [List.getElem?_eq_none (by rw [h.1]; omega), List.getElem?_eq_none (by simp; omega)]

set_option maxHeartbeats 2000000 in
theorem rcrash_lo (r : Nat) (T : Nat → Prop) (fs : List Fl) (keep : Int) (w : World) (H : RefIn w r T fs) (hn : fs.length < 1000000) (hk0 : -9223372036854775808 ≤ keep) (hk1 : keep ≤ 9223372036854775807) (hsg : keep < 0) :
    Calls Try.prog 18 #[.pointer (some ⟨r, 0, none⟩), .int .i64 keep] w fun e w' => e = .returned (.tuple #[]) ∧ Kp T w w' ∧ RefIn w' r T (fs.map (crR keep)) := by
  obtain ⟨⟨v, rs, h1⟩, h2⟩ := H
  have H1 := hide h1
  have L1 := hide h2
  clear h1 h2
  have hn1 := H1.out.form
  obtain ⟨A1, c1, hv⟩ := hn1
  subst hv
  have hrl := H1.out.len
  rw [hrl] at H1
  clear hrl
  go_enter Try.func18, Try.ntmps18
  go_wp2_with fail
  go_loopw [5] (fun i wr => ∃ (k : Nat) (rs' : List Raw) (fs' : List Fl), i = .int .i64 k ∧ k ≤ fs.length ∧ RefAt wr r T (.slice A1 fs.length c1) rs' fs' ∧ Half keep fs fs' k ∧ Kp T w wr) (fun i _ => fs.length - (intOf i).toNat)
  case atStart => exact ⟨0, rs, fs, rfl, by omega, H1.out, Half.start _ _, Kp.refl _ _⟩
  case round =>
    obtain ⟨k, rs', fs', rfl, hk, hR, hH, hK⟩ := hrel
    have HR := hide hR
    have HH := hide hH
    have HK := hide hK
    have hfl := hH.1
    clear hR hH hK
    obtain ⟨hc, -⟩ := HR.out.cell0
    by_cases hlt : k < fs.length
    · obtain ⟨g, x, f, e1, hx, hf, hok⟩ := HR.out.row_at k (by omega)
      subst e1
      obtain ⟨q0, q1, q2, q3⟩ := raw_at HR.out.row k x hx
      have HX := hide hx
      have HOK := hide hok
      have hff := hide ((HH.out.2 k).2 (Nat.le_refl _) ▸ hf)
      have hg1 := HR.out.own g rfl
      have hxn : x.n = f.b.length := hok.2.2.1
      have hxc : x.n ≤ x.c := hok.2.2.2.1
      rw [hxn] at hxc q1
      have hbl : f.b.length ≤ 65536 := hok.2.2.2.2.1
      have hxs := hok.2.1
      clear hx hok hf hxn hfl
      by_cases hs : x.s = true
      · rw [hs] at q2 hxs
        have HXS := hide hxs.symm
        clear hs hxs
        go_wp2
        go_roundw
        case rel => exact ⟨k + 1, rs', fs', by simp, by omega, HR.out.kp (S := fun _ => False) ((Kp.refl _ wr).alloc _) (fun _ _ h => h), HH.out.stay hff.out HXS.out, HK.out.alloc _⟩
        case measure =>
          show fs.length - ((k : Int) + 1).toNat < fs.length - (k : Int).toNat
          omega
      · have hs' : x.s = false := by simpa using hs
        rw [hs'] at q2 hxs
        have HXS := hide hxs.symm
        have HS := hide hs'
        clear hs hs' hxs
        have hg2 : g < wr.heap.size := hg1.2.2
        have hr2 : r < wr.heap.size := HR.out.lt
        have m0 : 0 ≤ (0 : Int) % ((f.b.length : Int) + 1) := Int.emod_nonneg _ (by omega)
        have m1 : (0 : Int) % ((f.b.length : Int) + 1) ≤ (x.c : Int) := by have := Int.emod_lt_of_pos (0 : Int) (show (0 : Int) < (f.b.length : Int) + 1 by omega); omega
        have em0 : 0 = (cutB keep f.b).length := by
          unfold cutB
          rw [List.length_take, Nat.min_eq_left (by have := Nat.mod_lt keep.toNat (show 0 < f.b.length + 1 by omega); omega)]
          rw [show keep.toNat = 0 by omega]; simp
        have em := hide em0
        clear em0
        have HB := hide (HR.out.kp (S := fun _ => False) ((Kp.refl _ wr).alloc (.cells #[.string x.nm, .slice x.A f.b.length x.c, .bool false] 63)) (fun _ _ h => h))
        have KB := hide (HK.out.alloc (.cells #[.string x.nm, .slice x.A f.b.length x.c, .bool false] 63))
        have b1 : (wr.alloc (.cells #[.string x.nm, .slice x.A f.b.length x.c, .bool false] 63)).cell? ⟨wr.heap.size, 1, none⟩ = some (.slice x.A f.b.length x.c) := cell_lit wr _ _ 1 rfl
        have b2 : (wr.alloc (.cells #[.string x.nm, .slice x.A f.b.length x.c, .bool false] 63)).cell? ⟨wr.heap.size, 2, none⟩ = some (.bool false) := cell_lit wr _ _ 2 rfl
        go_wp2
        clear q0 q1 q2 q3 hc
        generalize wr.alloc (.cells #[.string x.nm, .slice x.A f.b.length x.c, .bool false] 63) = wB at HB KB b1 b2 ⊢
        obtain ⟨hc, -⟩ := HB.out.cell0
        obtain ⟨q0, q1, q2, q3⟩ := raw_at HB.out.row k x HX.out
        rw [HOK.out.2.2.1] at q1
        rw [HS.out] at q2
        go_still_tail 16, (by kernel_rfl)
        rw [show IntKind.i64.wrap ((f.b.length : Int) + 1) = (f.b.length : Int) + 1 by unfold IntKind.wrap; simp [IntKind.signed, IntKind.bits]; omega]
        have hne : ¬ ((f.b.length : Int) + 1 = 0) := by omega
        repeat still_step
        refine wpStill_nil ?_
        have HBd := hide (HB.out.drewN 1)
        go_wp2
        go_roundw
        case rel =>
          have hb2 : (cutB keep f.b).length ≤ f.b.length := by unfold cutB; rw [List.length_take]; omega
          have hcut : U8.C wB x.A 0 (cutB keep f.b) := by
            have h4 := (HB.out.files k x f HX.out ((HH.out.2 k).2 (Nat.le_refl _) ▸ hff.out)).2.2.2.2.2.1
            rw [em.out]
            have h5 := HOK.out.2.2.1
            rw [h5] at h4
            exact C_takeN h4 _
          have hxA := (HB.out.files k x f HX.out ((HH.out.2 k).2 (Nat.le_refl _) ▸ hff.out)).2.2.2.2.2.2
          have q6 : 0 ≤ x.c := by rw [em.out]; omega
          have q7 : (cutB keep f.b).length ≤ 65536 := by omega
          have hfin := elem_fin HB.out k x ⟨x.nm, x.A, 0, x.c, false⟩ ⟨f.nm, cutB keep f.b, false⟩ HX.out 1 (.slice x.A 0 x.c) (by omega) (by simp [HS.out]) ⟨HOK.out.1, rfl, em.out, q6, q7, hcut, hxA⟩
          have hcut2 : RawOk (wB.setCell ⟨g, k * 3 + 1, none⟩ (.slice x.A 0 x.c)) T r (.slice (some ⟨g, 0, none⟩) fs.length c1) ⟨x.nm, x.A, 0, x.c, true⟩ ⟨f.nm, cutB keep f.b, true⟩ := by
            have hlk : k < rs'.length := (List.getElem?_eq_some_iff.1 HX.out).1
            have h6 := hfin.2.files k ⟨x.nm, x.A, 0, x.c, false⟩ ⟨f.nm, cutB keep f.b, false⟩ (List.getElem?_set_self hlk) (List.getElem?_set_self (by rw [← HB.out.len]; exact hlk))
            exact ⟨h6.1, rfl, h6.2.2⟩
          have hlk : k < rs'.length := (List.getElem?_eq_some_iff.1 HX.out).1
          have hfin2 := elem_fin hfin.2 k ⟨x.nm, x.A, 0, x.c, false⟩ ⟨x.nm, x.A, 0, x.c, true⟩ ⟨f.nm, cutB keep f.b, true⟩ (List.getElem?_set_self hlk) 2 (.bool true) (by omega) rfl hcut2
          exact ⟨k + 1, _, _, by simp, by omega, hfin2.2.drewN 1, HH.out.turn hff.out HXS.out rfl, ((KB.out.trans hfin.1).trans hfin2.1).drew⟩
        case measure =>
          show fs.length - ((k : Int) + 1).toNat < fs.length - (k : Int).toNat
          omega
    · go_wp2
      go_end0
      have hkn : k = fs.length := by omega
      subst hkn
      have := HH.out.done
      subst this
      exact ⟨rfl, HK.out, ⟨_, rs', HR.out⟩, fun k hk => by have := L1.out k hk; have := HK.out.size; omega⟩

set_option maxHeartbeats 2000000 in
theorem rcrash_hi (r : Nat) (T : Nat → Prop) (fs : List Fl) (keep : Int) (w : World) (H : RefIn w r T fs) (hn : fs.length < 1000000) (hk0 : -9223372036854775808 ≤ keep) (hk1 : keep ≤ 9223372036854775807) (hsg : 0 ≤ keep) :
    Calls Try.prog 18 #[.pointer (some ⟨r, 0, none⟩), .int .i64 keep] w fun e w' => e = .returned (.tuple #[]) ∧ Kp T w w' ∧ RefIn w' r T (fs.map (crR keep)) := by
  obtain ⟨⟨v, rs, h1⟩, h2⟩ := H
  have H1 := hide h1
  have L1 := hide h2
  clear h1 h2
  have hn1 := H1.out.form
  obtain ⟨A1, c1, hv⟩ := hn1
  subst hv
  have hrl := H1.out.len
  rw [hrl] at H1
  clear hrl
  go_enter Try.func18, Try.ntmps18
  go_wp2_with fail
  go_loopw [5] (fun i wr => ∃ (k : Nat) (rs' : List Raw) (fs' : List Fl), i = .int .i64 k ∧ k ≤ fs.length ∧ RefAt wr r T (.slice A1 fs.length c1) rs' fs' ∧ Half keep fs fs' k ∧ Kp T w wr) (fun i _ => fs.length - (intOf i).toNat)
  case atStart => exact ⟨0, rs, fs, rfl, by omega, H1.out, Half.start _ _, Kp.refl _ _⟩
  case round =>
    obtain ⟨k, rs', fs', rfl, hk, hR, hH, hK⟩ := hrel
    have HR := hide hR
    have HH := hide hH
    have HK := hide hK
    have hfl := hH.1
    clear hR hH hK
    obtain ⟨hc, -⟩ := HR.out.cell0
    by_cases hlt : k < fs.length
    · obtain ⟨g, x, f, e1, hx, hf, hok⟩ := HR.out.row_at k (by omega)
      subst e1
      obtain ⟨q0, q1, q2, q3⟩ := raw_at HR.out.row k x hx
      have HX := hide hx
      have HOK := hide hok
      have hff := hide ((HH.out.2 k).2 (Nat.le_refl _) ▸ hf)
      have hg1 := HR.out.own g rfl
      have hxn : x.n = f.b.length := hok.2.2.1
      have hxc : x.n ≤ x.c := hok.2.2.2.1
      rw [hxn] at hxc q1
      have hbl : f.b.length ≤ 65536 := hok.2.2.2.2.1
      have hxs := hok.2.1
      clear hx hok hf hxn hfl
      by_cases hs : x.s = true
      · rw [hs] at q2 hxs
        have HXS := hide hxs.symm
        clear hs hxs
        go_wp2
        go_roundw
        case rel => exact ⟨k + 1, rs', fs', by simp, by omega, HR.out.kp (S := fun _ => False) ((Kp.refl _ wr).alloc _) (fun _ _ h => h), HH.out.stay hff.out HXS.out, HK.out.alloc _⟩
        case measure =>
          show fs.length - ((k : Int) + 1).toNat < fs.length - (k : Int).toNat
          omega
      · have hs' : x.s = false := by simpa using hs
        rw [hs'] at q2 hxs
        have HXS := hide hxs.symm
        have HS := hide hs'
        clear hs hs' hxs
        have hg2 : g < wr.heap.size := hg1.2.2
        have hr2 : r < wr.heap.size := HR.out.lt
        have m0 : 0 ≤ (keep : Int) % ((f.b.length : Int) + 1) := Int.emod_nonneg _ (by omega)
        have m1 : (keep : Int) % ((f.b.length : Int) + 1) ≤ (x.c : Int) := by have := Int.emod_lt_of_pos (keep : Int) (show (0 : Int) < (f.b.length : Int) + 1 by omega); omega
        have em0 : (keep % ((f.b.length : Int) + 1)).toNat = (cutB keep f.b).length := by
          unfold cutB
          rw [List.length_take, Nat.min_eq_left (by have := Nat.mod_lt keep.toNat (show 0 < f.b.length + 1 by omega); omega)]
          have h3 := keep_mod keep f.b.length; rw [if_neg (by omega)] at h3; exact h3
        have em := hide em0
        clear em0
        have HB := hide (HR.out.kp (S := fun _ => False) ((Kp.refl _ wr).alloc (.cells #[.string x.nm, .slice x.A f.b.length x.c, .bool false] 63)) (fun _ _ h => h))
        have KB := hide (HK.out.alloc (.cells #[.string x.nm, .slice x.A f.b.length x.c, .bool false] 63))
        have b1 : (wr.alloc (.cells #[.string x.nm, .slice x.A f.b.length x.c, .bool false] 63)).cell? ⟨wr.heap.size, 1, none⟩ = some (.slice x.A f.b.length x.c) := cell_lit wr _ _ 1 rfl
        have b2 : (wr.alloc (.cells #[.string x.nm, .slice x.A f.b.length x.c, .bool false] 63)).cell? ⟨wr.heap.size, 2, none⟩ = some (.bool false) := cell_lit wr _ _ 2 rfl
        go_wp2
        clear q0 q1 q2 q3 hc
        generalize wr.alloc (.cells #[.string x.nm, .slice x.A f.b.length x.c, .bool false] 63) = wB at HB KB b1 b2 ⊢
        obtain ⟨hc, -⟩ := HB.out.cell0
        obtain ⟨q0, q1, q2, q3⟩ := raw_at HB.out.row k x HX.out
        rw [HOK.out.2.2.1] at q1
        rw [HS.out] at q2
        go_still_tail 16, (by kernel_rfl)
        rw [show IntKind.i64.wrap ((f.b.length : Int) + 1) = (f.b.length : Int) + 1 by unfold IntKind.wrap; simp [IntKind.signed, IntKind.bits]; omega]
        have hne : ¬ ((f.b.length : Int) + 1 = 0) := by omega
        repeat still_step
        rw [Int.tmod_eq_emod_of_nonneg hsg]
        repeat still_step
        refine wpStill_nil ?_
        have HBd := hide (HB.out.drewN 1)
        go_wp2
        go_roundw
        case rel =>
          have hb2 : (cutB keep f.b).length ≤ f.b.length := by unfold cutB; rw [List.length_take]; omega
          have hcut : U8.C wB x.A (keep % ((f.b.length : Int) + 1)).toNat (cutB keep f.b) := by
            have h4 := (HB.out.files k x f HX.out ((HH.out.2 k).2 (Nat.le_refl _) ▸ hff.out)).2.2.2.2.2.1
            rw [em.out]
            have h5 := HOK.out.2.2.1
            rw [h5] at h4
            exact C_takeN h4 _
          have hxA := (HB.out.files k x f HX.out ((HH.out.2 k).2 (Nat.le_refl _) ▸ hff.out)).2.2.2.2.2.2
          have q6 : (keep % ((f.b.length : Int) + 1)).toNat ≤ x.c := by rw [em.out]; omega
          have q7 : (cutB keep f.b).length ≤ 65536 := by omega
          have hfin := elem_fin HB.out k x ⟨x.nm, x.A, (keep % ((f.b.length : Int) + 1)).toNat, x.c, false⟩ ⟨f.nm, cutB keep f.b, false⟩ HX.out 1 (.slice x.A (keep % ((f.b.length : Int) + 1)).toNat x.c) (by omega) (by simp [HS.out]) ⟨HOK.out.1, rfl, em.out, q6, q7, hcut, hxA⟩
          have hcut2 : RawOk (wB.setCell ⟨g, k * 3 + 1, none⟩ (.slice x.A (keep % ((f.b.length : Int) + 1)).toNat x.c)) T r (.slice (some ⟨g, 0, none⟩) fs.length c1) ⟨x.nm, x.A, (keep % ((f.b.length : Int) + 1)).toNat, x.c, true⟩ ⟨f.nm, cutB keep f.b, true⟩ := by
            have hlk : k < rs'.length := (List.getElem?_eq_some_iff.1 HX.out).1
            have h6 := hfin.2.files k ⟨x.nm, x.A, (keep % ((f.b.length : Int) + 1)).toNat, x.c, false⟩ ⟨f.nm, cutB keep f.b, false⟩ (List.getElem?_set_self hlk) (List.getElem?_set_self (by rw [← HB.out.len]; exact hlk))
            exact ⟨h6.1, rfl, h6.2.2⟩
          have hlk : k < rs'.length := (List.getElem?_eq_some_iff.1 HX.out).1
          have hfin2 := elem_fin hfin.2 k ⟨x.nm, x.A, (keep % ((f.b.length : Int) + 1)).toNat, x.c, false⟩ ⟨x.nm, x.A, (keep % ((f.b.length : Int) + 1)).toNat, x.c, true⟩ ⟨f.nm, cutB keep f.b, true⟩ (List.getElem?_set_self hlk) 2 (.bool true) (by omega) rfl hcut2
          exact ⟨k + 1, _, _, by simp, by omega, hfin2.2.drewN 1, HH.out.turn hff.out HXS.out rfl, ((KB.out.trans hfin.1).trans hfin2.1).drew⟩
        case measure =>
          show fs.length - ((k : Int) + 1).toNat < fs.length - (k : Int).toNat
          omega
    · go_wp2
      go_end0
      have hkn : k = fs.length := by omega
      subst hkn
      have := HH.out.done
      subst this
      exact ⟨rfl, HK.out, ⟨_, rs', HR.out⟩, fun k hk => by have := L1.out k hk; have := HK.out.size; omega⟩

theorem rcrash_in (r : Nat) (T : Nat → Prop) (fs : List Fl) (keep : Int) (w : World) (H : RefIn w r T fs) (hn : fs.length < 1000000) (hk0 : -9223372036854775808 ≤ keep) (hk1 : keep ≤ 9223372036854775807) :
    Calls Try.prog 18 #[.pointer (some ⟨r, 0, none⟩), .int .i64 keep] w fun e w' => e = .returned (.tuple #[]) ∧ Kp T w w' ∧ RefIn w' r T (fs.map (crR keep)) := by
  by_cases h : keep < 0
  · exact rcrash_lo r T fs keep w H hn hk0 hk1 h
  · exact rcrash_hi r T fs keep w H hn hk0 hk1 (by omega)

end Go.Proofs.Ytdjbapbfbgcfjaa
