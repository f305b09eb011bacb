/- FrameGrows: its walk. -/
import Derived.Test.YtmbfapgamcbajaaDoorEFShown
import Derived.Test.YtmbfapgamcbajaaDoorPTexts
import Derived.Deep.RegionLaw
import Derived.Test.YtmbfapgamcbajaaDoorWLast
set_option linter.unusedVariables false
set_option linter.unusedSimpArgs false
namespace Go.Proofs.YtmbfapgamcbajaaDoor.X
open Go.RowKit Go.Proofs.YtmbfapgamcbajaaDoorW.PrintWords Go.Proofs.YtmbfapgamcbajaaDoorW.PrintLast

theorem own_empty (W : World) (e : TypeId) (k : IntKind) (ok : Nat → Prop) (h : ok W.heap.size) : (Kd.int k).R e (W.alloc (.cells #[] e)) W.heap.size ok (.slice (some ⟨W.heap.size, 0, none⟩) 0 0) [] := by
  refine Kd.R_of_own ?_ ?_
  · have h := own_lit W W.heap.size e k [] (Nat.le_refl _) (by simp)
    simpa [nums, encs] using h
  · intro j hj
    simp [Value.ownBlock] at hj
    subst hj
    exact h

set_option maxHeartbeats 400000 in

set_option maxHeartbeats 8000000 in
set_option maxRecDepth 100000 in
theorem FrameGrows_walk (A1 : Option Addr) (x : List Int) (c1 : Nat) (A2 : Option Addr) (y : List Int) (c2 : Nat) (w : World) (hLd : Ld w) (h1 : BC w A1 x) (hc1 : x.length ≤ c1) (h2 : BC w A2 y) (hc2 : y.length ≤ c2) :
    Calls Tryd.prog 3 #[.slice A1 x.length c1, .slice A2 y.length c2] w fun e w' => e = .returned (.bool true) ∧ Below w.heap.size w w' := by
  obtain ⟨cutx, bcx, hcx⟩ := cut_take A1 c1 x (min x.length 1500 : Nat) (by omega) (by omega) hc1
  have ex : x.take ((min x.length 1500 : Nat) : Int).toNat = x.take 1500 := by rw [List.take_eq_take_iff]; omega
  rw [ex] at bcx hcx
  obtain ⟨m, hm⟩ : ∃ m, m = min y.length 300 := ⟨_, rfl⟩
  obtain ⟨cut2, bc2, hc3⟩ := cut_take A2 c2 y (m : Int) (by omega) (by omega) hc2
  have hS := short_any A1 x c1 w hc1
  clear cutx ex
  obtain ⟨s, hs⟩ : ∃ s, s = x.take 1500 := ⟨_, rfl⟩
  obtain ⟨t, ht⟩ : ∃ t, t = y.take (m : Int).toNat := ⟨_, rfl⟩
  rw [← hs] at bcx hcx
  rw [← ht] at cut2 bc2 hc3
  have hsl : s.length ≤ 1500 := by rw [hs, List.length_take]; omega
  have htl : t.length ≤ 300 := by rw [ht, List.length_take]; omega
  have HSh := Aside0.mk (fun W => short_any A1 x c1 W hc1)
  simp only [← hs] at HSh
  have HM := Aside0.mk hm
  have HB1 := Aside0.mk (bcx _ h1)
  have HB2 := Aside0.mk (bc2 _ h2)
  have HL := Aside0.mk hLd
  clear hm hs ht hS bcx bc2 h1 h2 hLd
  obtain ⟨r1, r2, r3, hr⟩ : ∃ r1 r2 r3, nextB s = (r1, r2, r3) := ⟨_, _, _, rfl⟩
  obtain ⟨u, hu⟩ : ∃ u, u = s ++ t := ⟨_, rfl⟩
  have hul : u.length ≤ 1800 := by rw [hu, List.length_append]; omega
  obtain ⟨q1, q2, q3, hq⟩ : ∃ q1 q2 q3, nextB u = (q1, q2, q3) := ⟨_, _, _, rfl⟩
  have HU := Aside0.mk hu
  clear hu
  have HR := Aside0.mk hr
  have HQ := Aside0.mk hq
  clear hr hq
  go_enter Tryd.func3, Tryd.ntmps3
  go_wp2_with (first | (go_at_call 9; refine (shown_true _ HL.out).mono ?_; rintro e w1 ⟨rfl, hb⟩; have HW1 := Aside0.mk hb; clear hb) | (go_at_call 10; refine (HSh.out _).mono ?_; rintro e w' ⟨rfl, rfl⟩))
  refine (next_any A1 s c1 _ (HL.out.below HW1.out) (Kd.C_below HB1.out HW1.out) hcx (by omega) r1 r2 r3 HR.out).mono ?_
  rintro e w2 ⟨v0, rfl, hR, hB⟩
  have HW2 := Aside0.mk (below_then HW1.out HW1.out.size hB)
  obtain ⟨A3, c3, rfl, hc4, hC⟩ := Kd.R_reads hR
  have HC3 := Aside0.mk hC
  clear hR hB hC
  go_upto_region 4 with (fail)
  go_cut [9, 10, 11] (fun v9 v10 v11 wc => ∃ A7 c7, v9 = .slice A7 q1.length c7 ∧ v10 = .int .i64 q2 ∧ v11 = .int .i64 q3 ∧ Aside0 (q1.length ≤ c7) ∧ Aside0 (Kd.C Kd.string wc A7 q1.length q1) ∧ Aside0 (Below w2.heap.size w2 wc))
  case first =>
    have HD := Aside0.mk (Kd.C_drew (Kd.C_below HB1.out (below_then HW2.out HW2.out.size (below_alloc (Below.refl _ _) (.cells #[] 5)))))
    have HO := Aside0.mk (Kd.R_drew (own_empty w2 5 .u8 (fun k => w2.heap.size ≤ k) (Nat.le_refl _)))
    have HW := Aside0.mk (show Below w2.heap.size w2 (w2.alloc (.cells #[] 5)).drew from ((Below.refl _ _).alloc (Nat.le_refl _) _).trans ⟨rfl, rfl, rfl, Nat.le_refl _, fun _ _ => rfl⟩)
    have hmin : min (y.length : Int) 300 = (m : Int) := by have := HM.out; omega
    go_region_law (first
      | (refine Kd.R_append_rows_step (Kd.int .u8) (Rr := (Kd.int .u8).K (w2.alloc (.cells #[] 5)).drew) (w0 := w2) w2.heap.size (by rfl) (.tmp 23) (.tmp 24) 22 5 (.int .u8 0) 1 (by rfl) Tryd.underlying22 infoB rfl (by decide) (by decide) _ [] s A1 s.length c1 (fun k => w2.heap.size ≤ k) (fun _ => False) (by rfl) (by rfl) HO.out HD.out (fun _ _ h => h) (fun _ h => h.elim) (fun k hk => by simp at hk; exact Nat.le_of_succ_le hk) HW.out HW.out.size (by simp; omega) ?_
         intro v2 w3 hown hb3 hg3 hat3
         rw [List.nil_append] at hown
         obtain ⟨A5, c5, rfl⟩ := Kd.R_slice hown
         have HO3 := Aside0.mk hown
         have HB3 := Aside0.mk hb3
         have HD3 := Aside0.mk (Kd.C_below HB2.out (below_then HW2.out HW2.out.size HB3.out))
         clear hown hb3 hg3 hat3)
      | (refine Kd.R_append_rows_step (Kd.int .u8) (Rr := (Kd.int .u8).K w3) (w0 := w2) w2.heap.size (by rfl) (.tmp 25) (.tmp 30) 22 5 (.int .u8 0) 1 (by rfl) Tryd.underlying22 infoB rfl (by decide) (by decide) _ s t A2 t.length c2 (fun k => w2.heap.size ≤ k) (fun _ => False) (by rfl) (by rfl) HO3.out HD3.out (fun _ _ h => h) (fun _ h => h.elim) (fun k hk => Nat.le_trans HB3.out.size hk) HB3.out HB3.out.size (by omega) ?_
         intro v4 w4 hown4 hb4 hg4 hat4
         rw [← HU.out] at hown4
         obtain ⟨A6, c6, rfl, hc6, hC6⟩ := Kd.R_reads hown4
         have HC6 := Aside0.mk hC6
         have HB4 := Aside0.mk hb4
         clear hown4 hb4 hg4 hat4 hC6)
      | (refine goes_ (N := some 32) Tryd.func11 (by kernel_rfl) rfl #[.slice A6 u.length c6] (by rfl) rfl rfl (by simp only [List.map_toArray, List.map_cons, List.map_nil]; rfl) ?_
         refine (next_any A6 u c6 w4 (HL.out.below (below_then HW2.out HW2.out.size HB4.out)) HC6.out hc6 (by omega) q1 q2 q3 HQ.out).mono ?_
         rintro e w5 ⟨v5, rfl, hR5, hB5⟩
         refine ⟨_, rfl, ?_⟩
         obtain ⟨A7, c7, rfl, hc7, hC7⟩ := Kd.R_reads hR5
         have HC7 := Aside0.mk hC7
         have HB5 := Aside0.mk hB5
         clear hR5 hB5 hC7))
    all_goals
      have HB9 := Aside0.mk (below_then HB4.out HB4.out.size HB5.out)
      go_wp2_with fail
      go_meet
      exact ⟨A7, c7, rfl, rfl, rfl, ⟨hc7⟩, HC7, HB9⟩
  case rest =>
    obtain ⟨A7, c7, rfl, rfl, rfl, hc7', HC7, HB5⟩ := hcut
    have hc7 := hc7'.out
    have HW5 := Aside0.mk (below_then HW2.out HW2.out.size HB5.out)
    have HC3' := Aside0.mk (Kd.C_below HC3.out HB5.out)
    have hU := nextB_U s
    rw [HR.out] at hU
    have hU2 := nextB_U u
    rw [HQ.out, HU.out, U_app] at hU2
    rcases next_fits (U s) with h | h | ⟨l, n, h, hn1, hn2, hn3⟩
    · rw [h] at hU
      obtain ⟨e1, h5⟩ := Prod.mk.inj hU
      obtain ⟨e2, e3⟩ := Prod.mk.inj h5
      subst e1 e2 e3
      clear hU hU2 h h5
      have hx := texts_any A3 c3 [] A7 c7 q1 wc HC3'.out hc4 HC7.out hc7 (by simp)
      have HX := Aside0.mk hx
      clear hx
      go_wp2_with (go_at_call 12; refine HX.out.mono ?_; rintro e w6 ⟨b, rfl, hb, hd⟩; have HD6 := Aside0.mk (below_then HW5.out HW5.out.size hd.below); clear hd hb)
      all_goals go_ret
      all_goals exact ⟨rfl, HD6.out⟩
    · have h2 := (next_grows (U s) (U t)).resolve_left (by rw [h]; simp)
      rw [h] at hU h2
      rw [h2] at hU2
      obtain ⟨e1, h5⟩ := Prod.mk.inj hU
      obtain ⟨e2, e3⟩ := Prod.mk.inj h5
      obtain ⟨e4, h6⟩ := Prod.mk.inj hU2
      obtain ⟨e5, e6⟩ := Prod.mk.inj h6
      subst e1 e2 e3 e4 e5 e6
      clear hU hU2 h h5 h2 h6
      go_wp2
      all_goals go_ret
      all_goals exact ⟨rfl, HW5.out⟩
    · have h2 := (next_grows (U s) (U t)).resolve_left (by rw [h]; simp; omega)
      rw [h] at hU h2
      rw [h2] at hU2
      obtain ⟨e1, h5⟩ := Prod.mk.inj hU
      obtain ⟨e2, e3⟩ := Prod.mk.inj h5
      obtain ⟨e4, h6⟩ := Prod.mk.inj hU2
      obtain ⟨e5, e6⟩ := Prod.mk.inj h6
      subst e1 e2 e3 e4 e5 e6
      rw [U_len] at hn2
      clear hU hU2 h h5 h2 h6
      have hx := texts_any A3 c3 q1 A7 c7 q1 wc HC3'.out hc4 HC7.out hc7 (by omega)
      have HX := Aside0.mk hx
      clear hx
      have hz : ¬ ((n : Int) < 0) := by omega
      have hz1 : ¬ ((s.length : Int) < (n : Int)) := by omega
      have hz2 : ((n : Int) == 0) = false := by rw [beq_eq_false_iff_ne]; omega
      go_wp2_with (go_at_call 12; refine HX.out.mono ?_; rintro e w6 ⟨b, rfl, hb, hd⟩; obtain rfl : b = true := hb.out.2 rfl; have HD6 := Aside0.mk (below_then HW5.out HW5.out.size hd.below); clear hd hb)
      all_goals go_ret
      all_goals exact ⟨rfl, HD6.out⟩
end Go.Proofs.YtmbfapgamcbajaaDoor.X
