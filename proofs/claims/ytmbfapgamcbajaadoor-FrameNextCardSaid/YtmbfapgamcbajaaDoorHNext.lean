/- FrameNext: its walk. -/
import Derived.Test.YtmbfapgamcbajaaDoorEFShown
import Derived.Deep.RegionLaw
import Derived.IntWalk
import Derived.Test.YtmbfapgamcbajaaDoorWLast
import Derived.Test.YtmbfapgamcbajaaDoorERPut
import Derived.Test.YtmbfapgamcbajaaDoorPFitF
import Derived.Test.YtmbfapgamcbajaaDoorPTexts
set_option linter.unusedVariables false
set_option linter.unusedSimpArgs false
namespace Go.Proofs.YtmbfapgamcbajaaDoor.X
open Go.RowKit Go.Proofs.YtmbfapgamcbajaaDoorW.PrintWords Go.Proofs.YtmbfapgamcbajaaDoorW.PrintLast

theorem rnext_any (w0 : World) (A : Option Addr) (b : List Int) (c : Nat) (w : World) (hB : Below w0.heap.size w0 w) (hb : BC w A b) (hc : b.length ≤ c) (hlen : b.length ≤ 2000) (hby : Byt b) (r1 : List ByteArray) (r2 r3 : Int) (hr : nextB b = (r1, r2, r3)) :
    Calls Tryd.prog 14 #[.slice A b.length c] w fun e w' => ∃ (A1 : Option Addr) (c1 : Nat), e = .returned (.tuple #[.slice A1 r1.length c1, .int .i64 r2, .int .i64 r3]) ∧ Aside0 (r1.length ≤ c1) ∧ Aside0 (Kd.C Kd.string w' A1 r1.length r1) ∧ Aside0 (Below w0.heap.size w0 w') ∧ Aside0 (Below w.heap.size w w') := by
  obtain ⟨K, hK⟩ := next_ev b hby hlen
  rw [← nextB_U, hr] at hK
  refine (tipstaffref06_Next.calls K A c b r1 r2 r3 w hb hc (hK K (Nat.le_refl _))).mono ?_
  rintro e w' ⟨v0, rfl, hR, hB'⟩
  obtain ⟨A1, c1, rfl, hc1, hC1⟩ := Kd.R_reads hR
  exact ⟨A1, c1, rfl, ⟨hc1⟩, ⟨hC1⟩, ⟨below_then hB hB.size hB'⟩, ⟨hB'⟩⟩

theorem rput_q (w0 : World) (A : Option Addr) (l : List ByteArray) (c : Nat) (w : World) (hB : Below w0.heap.size w0 w) (m : Nat) (hm : m = l.length) (hC : Kd.C Kd.string w A l.length l) (hc : l.length ≤ c) (hl : l.length ≤ 1000) (hs : ∀ x ∈ l, x.size ≤ 1000) (q : Nat) (hq : (putU l).length = q) (b : List Int) (hb : NB (putU l) = b) :
    Calls Tryd.prog 16 #[.slice A m c] w fun e w' => ∃ (A' : Option Addr) (c' : Nat), e = .returned (.slice A' q c') ∧ Aside0 (q ≤ c') ∧ Aside0 (BC w' A' b) ∧ Aside0 (Below w0.heap.size w0 w') ∧ Aside0 (Below w.heap.size w w') := by
  subst hm
  refine (rput_any A l c w hC hc hl hs).mono ?_
  rintro e w' ⟨A', c', rfl, h1, h2, h3⟩
  subst hq hb
  exact ⟨A', c', rfl, ⟨h1⟩, ⟨h2⟩, ⟨below_then hB hB.size h3⟩, ⟨h3⟩⟩

theorem wpAnyH_mono {P : Program} {md : Region.Mode} {ops : Array Oper} {Q : Exit → Act → World → Prop} {S S' : World → Prop} (hS : ∀ w, S' w → S w) : ∀ (fuel : Nat) (listed : Array Bool) (a : Act) (w : World), wpAnyH P md ops Q S' fuel listed a w → wpAnyH P md ops Q S fuel listed a w
  | 0, _, _, _, h => h
  | fuel + 1, _, _, _, h => ⟨h.1, fun i hi => wpOp_mono (fun a' w' h' => ⟨hS _ h'.1, wpAnyH_mono hS fuel _ a' w' h'.2⟩) (h.2 i hi)⟩

set_option maxHeartbeats 8000000 in
set_option maxRecDepth 100000 in
theorem FrameNext_walk (A1 : Option Addr) (x : List Int) (c1 : Nat) (A2 : Option Addr) (l : List ByteArray) (c2 : Nat) (w : World) (hLd : Ld w) (hx : Byt x) (h1 : BC w A1 x) (hc1 : x.length ≤ c1) (h2 : Kd.C Kd.string w A2 l.length l) (hc2 : l.length ≤ c2) :
    Calls Tryd.prog 4 #[.slice A1 x.length c1, .slice A2 l.length c2] w fun e w' => e = .returned (.bool true) ∧ Below w.heap.size w w' := by
  obtain ⟨cutx, bcx, hcx⟩ := cut_take A1 c1 x (min x.length 1500 : Nat) (by omega) (by omega) hc1
  have ex : x.take ((min x.length 1500 : Nat) : Int).toNat = x.take 1500 := by rw [List.take_eq_take_iff]; omega
  rw [ex] at bcx hcx
  clear cutx ex
  have HSh := Aside0.mk (fun W => short_any A1 x c1 W hc1)
  obtain ⟨s, hs⟩ : ∃ s, s = x.take 1500 := ⟨_, rfl⟩
  have hsb : Byt s := by rw [hs]; exact fun z hz => hx z (List.mem_of_mem_take hz)
  rw [← hs] at bcx hcx
  have hsl : s.length ≤ 1500 := by rw [hs, List.length_take]; omega
  simp only [← hs] at HSh
  have HB1 := Aside0.mk (bcx _ h1)
  have HB2 := Aside0.mk h2
  have HL := Aside0.mk hLd
  have HBy := Aside0.mk hsb
  clear hs bcx h1 h2 hLd hx hsb
  obtain ⟨r1, r2, r3, hr⟩ : ∃ r1 r2 r3, nextB s = (r1, r2, r3) := ⟨_, _, _, rfl⟩
  have hrl : r1.length ≤ 1000 := by
    have h := nextB_U s
    rw [hr] at h
    rcases next_fits (U s) with h' | h' | ⟨l', n, h', _, _, h3⟩ <;> rw [h'] at h <;> obtain ⟨e1, _⟩ := Prod.mk.inj h <;> subst e1
    · simp
    · simp
    · omega
  have HR := Aside0.mk hr
  have HRl := Aside0.mk hrl
  clear hr hrl
  go_enter Tryd.func4, Tryd.ntmps4
  go_wp2_with (first | (go_at_call 9; refine (shown_true _ HL.out).mono ?_; rintro e w1 ⟨rfl, hb⟩; have HW1 := Aside0.mk hb; clear hb) | (go_at_call 10; refine (HSh.out _).mono ?_; rintro e w' ⟨rfl, rfl⟩))
  refine (fit_any A2 l c2 _ (Kd.C_below HB2.out HW1.out) hc2).mono ?_
  rintro e w2 ⟨A3, m3, c3, l3, rfl, hm3, hc3, hF3, hC3, hB3⟩
  have HW2 := Aside0.mk (below_then HW1.out HW1.out.size hB3.out)
  obtain ⟨q, hq⟩ : ∃ q, (putU l3).length = q := ⟨_, rfl⟩
  obtain ⟨b, hb⟩ : ∃ b, NB (putU l3) = b := ⟨_, rfl⟩
  have hbl : b.length = q := by rw [← hb, NB_len, hq]
  have HQ := Aside0.mk hq
  have HBe := Aside0.mk hb
  have HBl := Aside0.mk hbl
  clear hq hb hbl hB3
  go_wp2_with fail
  refine (next_any A1 s c1 _ (HL.out.below HW2.out) (Kd.C_below HB1.out HW2.out) hcx (by omega) r1 r2 r3 HR.out).mono ?_
  rintro e w4 ⟨v4, rfl, hR4, hB4⟩
  have HW4 := Aside0.mk (below_then HW2.out HW2.out.size hB4)
  have HC34 := Aside0.mk (Kd.C_below hC3.out hB4)
  obtain ⟨A4, c4, rfl, hc4, hC4⟩ := Kd.R_reads hR4
  have HC4 := Aside0.mk hC4
  clear hR4 hB4 hC4
  go_wp2_with fail
  refine (rnext_any w A1 s c1 _ HW4.out (Kd.C_below HB1.out HW4.out) hcx (by omega) HBy.out r1 r2 r3 HR.out).mono ?_
  rintro e w5 ⟨A5, c5, rfl, hc5, hC5, HW5, HB5⟩
  have HC35 := Aside0.mk (Kd.C_below HC34.out HB5.out)
  have HC45 := Aside0.mk (Kd.C_below HC4.out HB5.out)
  go_wp2_with fail
  refine (texts_any A4 c4 r1 A5 c5 r1 w5 HC45.out hc4 hC5.out hc5.out HRl.out).mono ?_
  rintro e w6 ⟨b6, rfl, hb6, hd6⟩
  obtain rfl : b6 = true := hb6.out.2 rfl
  have HB6 := Aside0.mk hd6.below
  have HW6 := Aside0.mk (below_then HW5.out HW5.out.size hd6.below)
  have HC36 := Aside0.mk (Kd.C_below HC35.out hd6.below)
  clear hd6 hb6
  go_upto_region 7 with (fail)
  have HWd := Aside0.mk (show Below w.heap.size w w6.drew from pw_below_drewN HW6.out 1)
  have HCd := Aside0.mk (Kd.C_drew HC36.out)
  obtain ⟨T, hT⟩ : ∃ T, T = strOfNums b := ⟨_, rfl⟩
  have HT := Aside0.mk hT
  have H1000 := Aside0.mk (show ∀ x ∈ l3, x.size ≤ 1000 from fun x hx => by have := hF3.out.2.2 x hx; omega)
  have HL3 := Aside0.mk (show l3.length ≤ 1000 from by have := hF3.out.2.1; omega)
  have HC3L := Aside0.mk (show l3.length ≤ c3 by have h1 := hm3.out; have h2 := hc3.out; omega)
  clear hT
  refine wp_region_held_drew (S := fun _ => True) (by kernel_rfl) trivial (fun _ => ?_)
  refine' wpAnyH_take (i := 0) (oi := ?oi0) (v := ?v0) ?hi0 (by kernel_rfl) (by kernel_rfl) (by kernel_rfl) ?hq0 ?hy0 trivial ?hr0
  case hi0 => (simp only [List.getElem?_toArray, List.getElem?_cons_succ, List.getElem?_cons_zero]; rfl)
  case hq0 => exact fun _ _ _ h => h
  case hy0 => (first | (refine Or.inr ⟨?_, by rfl⟩; first | rfl | (go_simp; done)) | (refine Or.inl ⟨by rfl, ?_⟩; intro w _; go_simp; first | done | rfl))
  try simp only [Act.put, List.setIfInBounds_toArray, List.set_cons_zero, List.set_cons_succ]
  refine' wpAnyH_take (i := 1) (oi := ?oi1) (v := ?v1) ?hi1 (by kernel_rfl) (by kernel_rfl) (by kernel_rfl) ?hq1 ?hy1 trivial ?hr1
  case hi1 => (simp only [List.getElem?_toArray, List.getElem?_cons_succ, List.getElem?_cons_zero]; rfl)
  case hq1 => exact fun _ _ _ h => h
  case hy1 => (first | (refine Or.inr ⟨?_, by rfl⟩; first | rfl | (go_simp; done)) | (refine Or.inl ⟨by rfl, ?_⟩; intro w _; go_simp; first | done | rfl))
  try simp only [Act.put, List.setIfInBounds_toArray, List.set_cons_zero, List.set_cons_succ]
  refine' wpAnyH_take (i := 2) (oi := ?oi2) (v := ?v2) ?hi2 (by kernel_rfl) (by kernel_rfl) (by kernel_rfl) ?hq2 ?hy2 trivial ?hr2
  case hi2 => (simp only [List.getElem?_toArray, List.getElem?_cons_succ, List.getElem?_cons_zero]; rfl)
  case hq2 => exact fun _ _ _ h => h
  case hy2 => (first | (refine Or.inr ⟨?_, by rfl⟩; first | rfl | (go_simp; done)) | (refine Or.inl ⟨by rfl, ?_⟩; intro w _; go_simp; first | done | rfl))
  try simp only [Act.put, List.setIfInBounds_toArray, List.set_cons_zero, List.set_cons_succ]
  refine' wpAnyH_take (i := 3) (oi := ?oi3) (v := ?v3) ?hi3 (by kernel_rfl) (by kernel_rfl) (by kernel_rfl) ?hq3 ?hy3 trivial ?hr3
  case hi3 => (simp only [List.getElem?_toArray, List.getElem?_cons_succ, List.getElem?_cons_zero]; rfl)
  case hq3 => exact fun _ _ _ h => h
  case hy3 => (first | (refine Or.inr ⟨?_, by rfl⟩; first | rfl | (go_simp; done)) | (refine Or.inl ⟨by rfl, ?_⟩; intro w _; go_simp; first | done | rfl))
  try simp only [Act.put, List.setIfInBounds_toArray, List.set_cons_zero, List.set_cons_succ]
  refine' wpAnyH_take (i := 4) (oi := ?oi4) (v := ?v4) ?hi4 (by kernel_rfl) (by kernel_rfl) (by kernel_rfl) ?hq4 ?hy4 trivial ?hr4
  case hi4 => (simp only [List.getElem?_toArray, List.getElem?_cons_succ, List.getElem?_cons_zero]; rfl)
  case hq4 => exact fun _ _ _ h => h
  case hy4 => (first | (refine Or.inr ⟨?_, by rfl⟩; first | rfl | (go_simp; done)) | (refine Or.inl ⟨by rfl, ?_⟩; intro w _; go_simp; first | done | rfl))
  try simp only [Act.put, List.setIfInBounds_toArray, List.set_cons_zero, List.set_cons_succ]
  refine' wpAnyH_take (i := 5) (oi := ?oi5) (v := ?v5) ?hi5 (by kernel_rfl) (by kernel_rfl) (by kernel_rfl) ?hq5 ?hy5 trivial ?hr5
  case hi5 => (simp only [List.getElem?_toArray, List.getElem?_cons_succ, List.getElem?_cons_zero]; rfl)
  case hq5 => exact fun _ _ _ h => h
  case hy5 => (first | (refine Or.inr ⟨?_, by rfl⟩; first | rfl | (go_simp; done)) | (refine Or.inl ⟨by rfl, ?_⟩; intro w _; go_simp; first | done | rfl))
  try simp only [Act.put, List.setIfInBounds_toArray, List.set_cons_zero, List.set_cons_succ]
  refine' wpAnyH_take (i := 6) (oi := ?oi6) (v := ?v6) ?hi6 (by kernel_rfl) (by kernel_rfl) (by kernel_rfl) ?hq6 ?hy6 trivial ?hr6
  case hi6 => (simp only [List.getElem?_toArray, List.getElem?_cons_succ, List.getElem?_cons_zero]; rfl)
  case hq6 => exact fun _ _ _ h => h
  case hy6 => (first | (refine Or.inr ⟨?_, by rfl⟩; first | rfl | (go_simp; done)) | (refine Or.inl ⟨by rfl, ?_⟩; intro w _; go_simp; first | done | rfl))
  try simp only [Act.put, List.setIfInBounds_toArray, List.set_cons_zero, List.set_cons_succ]
  refine' wpAnyH_take (i := 7) (oi := ?oi7) (v := ?v7) ?hi7 (by kernel_rfl) (by kernel_rfl) (by kernel_rfl) ?hq7 ?hy7 trivial ?hr7
  case hi7 => (simp only [List.getElem?_toArray, List.getElem?_cons_succ, List.getElem?_cons_zero]; rfl)
  case hq7 => exact fun _ _ _ h => h
  case hy7 => (first | (refine Or.inr ⟨?_, by rfl⟩; first | rfl | (go_simp; done)) | (refine Or.inl ⟨by rfl, ?_⟩; intro w _; go_simp; first | done | rfl))
  try simp only [Act.put, List.setIfInBounds_toArray, List.set_cons_zero, List.set_cons_succ]
  refine' wpAnyH_take (i := 8) (oi := ?oi8) (v := ?v8) ?hi8 (by kernel_rfl) (by kernel_rfl) (by kernel_rfl) ?hq8 ?hy8 trivial ?hr8
  case hi8 => (simp only [List.getElem?_toArray, List.getElem?_cons_succ, List.getElem?_cons_zero]; rfl)
  case hq8 => exact fun _ _ _ h => h
  case hy8 => (first | (refine Or.inr ⟨?_, by rfl⟩; first | rfl | (go_simp; done)) | (refine Or.inl ⟨by rfl, ?_⟩; intro w _; go_simp; first | done | rfl))
  try simp only [Act.put, List.setIfInBounds_toArray, List.set_cons_zero, List.set_cons_succ]
  refine' wpAnyH_take (i := 9) (oi := ?oi9) (v := ?v9) ?hi9 (by kernel_rfl) (by kernel_rfl) (by kernel_rfl) ?hq9 ?hy9 trivial ?hr9
  case hi9 => (simp only [List.getElem?_toArray, List.getElem?_cons_succ, List.getElem?_cons_zero]; rfl)
  case hq9 => exact fun _ _ _ h => h
  case hy9 => (first | (refine Or.inr ⟨?_, by rfl⟩; first | rfl | (go_simp; done)) | (refine Or.inl ⟨by rfl, ?_⟩; intro w _; go_simp; first | done | rfl))
  try simp only [Act.put, List.setIfInBounds_toArray, List.set_cons_zero, List.set_cons_succ]
  refine' wpAnyH_take (i := 10) (oi := ?oi10) (v := ?v10) ?hi10 (by kernel_rfl) (by kernel_rfl) (by kernel_rfl) ?hq10 ?hy10 trivial ?hr10
  case hi10 => (simp only [List.getElem?_toArray, List.getElem?_cons_succ, List.getElem?_cons_zero]; rfl)
  case hq10 => exact fun _ _ _ h => h
  case hy10 => (first | (refine Or.inr ⟨?_, by rfl⟩; first | rfl | (go_simp; done)) | (refine Or.inl ⟨by rfl, ?_⟩; intro w _; go_simp; first | done | rfl))
  try simp only [Act.put, List.setIfInBounds_toArray, List.set_cons_zero, List.set_cons_succ]
  refine' wpAnyH_take (i := 11) (oi := ?oi11) (v := ?v11) ?hi11 (by kernel_rfl) (by kernel_rfl) (by kernel_rfl) ?hq11 ?hy11 trivial ?hr11
  case hi11 => (simp only [List.getElem?_toArray, List.getElem?_cons_succ, List.getElem?_cons_zero]; rfl)
  case hq11 => exact fun _ _ _ h => h
  case hy11 => (first | (refine Or.inr ⟨?_, by rfl⟩; first | rfl | (go_simp; done)) | (refine Or.inl ⟨by rfl, ?_⟩; intro w _; go_simp; first | done | rfl))
  try simp only [Act.put, List.setIfInBounds_toArray, List.set_cons_zero, List.set_cons_succ]
  refine' wpAnyH_take (i := 12) (oi := ?oi12) (v := ?v12) ?hi12 (by kernel_rfl) (by kernel_rfl) (by kernel_rfl) ?hq12 ?hy12 trivial ?hr12
  case hi12 => (simp only [List.getElem?_toArray, List.getElem?_cons_succ, List.getElem?_cons_zero]; rfl)
  case hq12 => exact fun _ _ _ h => h
  case hy12 => (first | (refine Or.inr ⟨?_, by rfl⟩; first | rfl | (go_simp; done)) | (refine Or.inl ⟨by rfl, ?_⟩; intro w _; go_simp; first | done | rfl))
  try simp only [Act.put, List.setIfInBounds_toArray, List.set_cons_zero, List.set_cons_succ]
  refine' wpAnyH_take (i := 13) (oi := ?oi13) (v := ?v13) ?hi13 (by kernel_rfl) (by kernel_rfl) (by kernel_rfl) ?hq13 ?hy13 trivial ?hr13
  case hi13 => (simp only [List.getElem?_toArray, List.getElem?_cons_succ, List.getElem?_cons_zero]; rfl)
  case hq13 => exact fun _ _ _ h => h
  case hy13 => (first | (refine Or.inr ⟨?_, by rfl⟩; first | rfl | (go_simp; done)) | (refine Or.inl ⟨by rfl, ?_⟩; intro w _; go_simp; first | done | rfl))
  try simp only [Act.put, List.setIfInBounds_toArray, List.set_cons_zero, List.set_cons_succ]
  refine' wpAnyH_take (i := 14) (oi := ?oi14) (v := ?v14) ?hi14 (by kernel_rfl) (by kernel_rfl) (by kernel_rfl) ?hq14 ?hy14 trivial ?hr14
  case hi14 => (simp only [List.getElem?_toArray, List.getElem?_cons_succ, List.getElem?_cons_zero]; rfl)
  case hq14 => exact fun _ _ _ h => h
  case hy14 => (first | (refine Or.inr ⟨?_, by rfl⟩; first | rfl | (go_simp; done)) | (refine Or.inl ⟨by rfl, ?_⟩; intro w _; go_simp; first | done | rfl))
  try simp only [Act.put, List.setIfInBounds_toArray, List.set_cons_zero, List.set_cons_succ]
  refine' wpAnyH_take (i := 15) (oi := ?oi15) (v := ?v15) ?hi15 (by kernel_rfl) (by kernel_rfl) (by kernel_rfl) ?hq15 ?hy15 trivial ?hr15
  case hi15 => (simp only [List.getElem?_toArray, List.getElem?_cons_succ, List.getElem?_cons_zero]; rfl)
  case hq15 => exact fun _ _ _ h => h
  case hy15 => (first | (refine Or.inr ⟨?_, by rfl⟩; first | rfl | (go_simp; done)) | (refine Or.inl ⟨by rfl, ?_⟩; intro w _; go_simp; first | done | rfl))
  try simp only [Act.put, List.setIfInBounds_toArray, List.set_cons_zero, List.set_cons_succ]
  refine' wpAnyH_take (i := 18) (oi := ?oi18) (v := ?v18) ?hi18 (by kernel_rfl) (by kernel_rfl) (by kernel_rfl) ?hq18 ?hy18 trivial ?hr18
  case hi18 => (simp only [List.getElem?_toArray, List.getElem?_cons_succ, List.getElem?_cons_zero]; rfl)
  case hq18 => exact fun _ _ _ h => h
  case hy18 => (first | (refine Or.inr ⟨?_, by rfl⟩; first | rfl | (go_simp; done)) | (refine Or.inl ⟨by rfl, ?_⟩; intro w _; go_simp; first | done | rfl))
  try simp only [Act.put, List.setIfInBounds_toArray, List.set_cons_zero, List.set_cons_succ]
  refine wpAnyH_ready (rs := [16]) (by kernel_rfl) (by simp) ?_
  refine AllReadyH.cons (o := ?oi16) ?hi16 (fun K hK => ?hs16) AllReadyH.nil
  case hi16 => (simp only [List.getElem?_toArray, List.getElem?_cons_succ, List.getElem?_cons_zero]; rfl)
  go_simp
  (go_at_call 15; (with_reducible refine (put_q w A3 l3 c3 _ HL.out HWd.out m3 hm3.out HCd.out HC3L.out HL3.out H1000.out q HQ.out b HBe.out).mono ?_); rintro e w9 ⟨A9, c9, rfl, y1, y2, y3, y4⟩)
  try go_wp2_with fail
  refine hK.out _ _ trivial (fun _ => ?_)
  clear hK K
  refine wpAnyH_mono (S' := fun wz => Below w9.heap.size w9 wz) (fun _ _ => trivial) _ _ _ _ ?_
  have hcvB : ∀ wz, Below w9.heap.size w9 wz → (convert 22 9 (.slice A9 q c9)).run Tryd.prog wz = .ok (.string T) wz := fun wz hwz => by rw [HT.out, ← HBl.out]; exact cut_text wz A9 c9 b (Kd.C_below y2.out hwz)
  try simp only [Act.put, List.setIfInBounds_toArray, List.set_cons_zero, List.set_cons_succ]
  refine' wpAnyH_take (i := 17) (oi := ?oi17) (v := ?v17) ?hi17 (by kernel_rfl) (by kernel_rfl) (by kernel_rfl) ?hq17 ?hy17 (Below.refl _ _) ?hr17
  case hi17 => (simp only [List.getElem?_toArray, List.getElem?_cons_succ, List.getElem?_cons_zero]; rfl)
  case hq17 => exact fun _ _ _ h => h
  case hy17 => (first | (refine Or.inr ⟨?_, by rfl⟩; first | rfl | (go_simp; done)) | (refine Or.inl ⟨by rfl, ?_⟩; intro wz hwz; have hcvz := hcvB wz hwz; go_simp; first | done | rfl))
  try simp only [Act.put, List.setIfInBounds_toArray, List.set_cons_zero, List.set_cons_succ]
  refine wpAnyH_ready (rs := [19]) (by kernel_rfl) (by simp) ?_
  refine AllReadyH.cons (o := ?oi19) ?hi19 (fun K hK => ?hs19) AllReadyH.nil
  case hi19 => (simp only [List.getElem?_toArray, List.getElem?_cons_succ, List.getElem?_cons_zero]; rfl)
  go_simp
  (go_at_call 16; (with_reducible refine (rput_q w A3 l3 c3 _ y3.out m3 hm3.out (Kd.C_below HCd.out y4.out) HC3L.out HL3.out H1000.out q HQ.out b HBe.out).mono ?_); rintro e w10 ⟨A10, c10, rfl, z1, z2, z3, z4⟩; have hcv3 : (convert 22 9 (.slice A10 q c10)).run Tryd.prog w10 = .ok (.string T) w10 := (by rw [HT.out, ← HBl.out]; exact cut_text w10 A10 c10 b z2.out))
  try go_wp2_with fail
  refine hK.out _ _ z4.out (fun _ => ?_)
  clear hK K
  try simp only [Act.put, List.setIfInBounds_toArray, List.set_cons_zero, List.set_cons_succ]
  refine wpAnyH_ready (rs := [20]) (by kernel_rfl) (by simp) ?_
  refine AllReadyH.cons (o := ?oi20) ?hi20 (fun K hK => ?hs20) AllReadyH.nil
  case hi20 => (simp only [List.getElem?_toArray, List.getElem?_cons_succ, List.getElem?_cons_zero]; rfl)
  go_simp
  try go_wp2_with fail
  refine hK.out _ _ z4.out (fun _ => ?_)
  clear hK K
  try simp only [Act.put, List.setIfInBounds_toArray, List.set_cons_zero, List.set_cons_succ]
  refine' wpAnyH_take (i := 21) (oi := ?oi21) (v := ?v21) ?hi21 (by kernel_rfl) (by kernel_rfl) (by kernel_rfl) ?hq21 ?hy21 z4.out ?hr21
  case hi21 => (simp only [List.getElem?_toArray, List.getElem?_cons_succ, List.getElem?_cons_zero]; rfl)
  case hq21 => exact fun _ _ _ h => h
  case hy21 => (first | (refine Or.inr ⟨?_, by rfl⟩; first | rfl | (go_simp; done)) | (refine Or.inl ⟨by rfl, ?_⟩; intro w _; go_simp; first | done | rfl))
  try simp only [Act.put, List.setIfInBounds_toArray, List.set_cons_zero, List.set_cons_succ]
  refine' wpAnyH_take (i := 22) (oi := ?oi22) (v := ?v22) ?hi22 (by kernel_rfl) (by kernel_rfl) (by kernel_rfl) ?hq22 ?hy22 z4.out ?hr22
  case hi22 => (simp only [List.getElem?_toArray, List.getElem?_cons_succ, List.getElem?_cons_zero]; rfl)
  case hq22 => exact fun _ _ _ h => h
  case hy22 => (first | (refine Or.inr ⟨?_, by rfl⟩; first | rfl | (go_simp; done)) | (refine Or.inl ⟨by rfl, ?_⟩; intro w _; go_simp; first | done | rfl))
  try simp only [Act.put, List.setIfInBounds_toArray, List.set_cons_zero, List.set_cons_succ]
  refine' wpAnyH_take (i := 23) (oi := ?oi23) (v := ?v23) ?hi23 (by kernel_rfl) (by kernel_rfl) (by kernel_rfl) ?hq23 ?hy23 z4.out ?hr23
  case hi23 => (simp only [List.getElem?_toArray, List.getElem?_cons_succ, List.getElem?_cons_zero]; rfl)
  case hq23 => exact fun _ _ _ h => h
  case hy23 => (first | (refine Or.inr ⟨?_, by rfl⟩; first | rfl | (go_simp; done)) | (refine Or.inl ⟨by rfl, ?_⟩; intro w _; go_simp; first | done | rfl))
  try simp only [Act.put, List.setIfInBounds_toArray, List.set_cons_zero, List.set_cons_succ]
  refine wpAnyH_done (by kernel_rfl) ?_ _
  go_wp2
  go_ret
  exact ⟨rfl, z3.out⟩
end Go.Proofs.YtmbfapgamcbajaaDoor.X
