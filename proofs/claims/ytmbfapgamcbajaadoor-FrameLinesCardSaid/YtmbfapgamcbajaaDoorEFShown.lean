/- The document's examples of frame: shown gives true; short. -/
import Derived.Test.YtmbfapgamcbajaaDoorPFrm4
set_option linter.unusedVariables false
set_option linter.unusedSimpArgs false
namespace Go.Proofs.YtmbfapgamcbajaaDoor.X
open Go.RowKit Go.Proofs.YtmbfapgamcbajaaDoorW.PrintWords

theorem itoa1 : Lib.itoa ((1 : Nat) : Int) = [49] := by unfold Lib.itoa; rw [if_neg (by omega), decD, if_pos (by decide)]; rfl
theorem itoa4 : Lib.itoa ((4 : Nat) : Int) = [52] := by unfold Lib.itoa; rw [if_neg (by omega), decD, if_pos (by decide)]; rfl
theorem itoa00 : Lib.itoa ((0 : Nat) : Int) = [48] := by unfold Lib.itoa; rw [if_neg (by omega), decD, if_pos (by decide)]; rfl

theorem ex_ping : nextB [80, 73, 78, 71, 13, 10] = ([⟨#[80, 73, 78, 71]⟩], 6, 0) := by
  rw [nextB_U]
  rfl
theorem ex_none : nextB [42, 48, 13, 10] = ([], 0, 10) := by
  rw [nextB_U]
  have h := head_put 42 1 32 0 (by decide) (by decide) []
  rw [if_neg (by decide)] at h
  unfold lineP at h
  rw [itoa00] at h
  show nextU [42, 48, 13, 10] = _
  unfold nextU
  rw [if_pos (by rfl)]
  unfold rowTop
  have h' : headU 42 1 32 [42, 48, 13, 10] = .bad := h
  rw [h']
theorem ex_short : nextB [42, 49, 13, 10, 36, 52, 13, 10, 80, 73] = ([], 0, 0) := by
  rw [nextB_U]
  have h := head_put 42 1 32 1 (by decide) (by decide) [36, 52, 13, 10, 80, 73]
  have h4 := head_put 36 0 512 4 (by decide) (by decide) [80, 73]
  rw [if_pos (by decide)] at h h4
  unfold lineP at h h4
  rw [itoa1] at h
  rw [itoa4] at h4
  show nextU [42, 49, 13, 10, 36, 52, 13, 10, 80, 73] = _
  unfold nextU
  rw [if_pos (by rfl)]
  unfold rowTop
  have h' : headU 42 1 32 [42, 49, 13, 10, 36, 52, 13, 10, 80, 73] = .ok 1 4 := h
  have h4' : headU 36 0 512 [36, 52, 13, 10, 80, 73] = .ok 4 4 := h4
  rw [h']
  show rowU 1 [36, 52, 13, 10, 80, 73] 4 [] = _
  unfold rowU
  rw [h4']
  rfl

theorem next_lit (w0 w : World) (hLd : Ld w0) (hB : Below w0.heap.size w0 w) (A : Option Addr) (b : List Int) (hb : BC w A b) (hlen : b.length ≤ 1000000) (m : Nat) (hm : m = b.length) (r1 : List ByteArray) (r2 r3 : Int) (hr : nextB b = (r1, r2, r3)) :
    Calls Tryd.prog 11 #[.slice A m m] w fun e w' => ∃ (A1 : Option Addr) (c1 : Nat), e = .returned (.tuple #[.slice A1 r1.length c1, .int .i64 r2, .int .i64 r3]) ∧ Kd.C Kd.string w' A1 r1.length r1 ∧ r1.length ≤ c1 ∧ Below w0.heap.size w0 w' ∧ Below w.heap.size w w' := by
  subst hm
  refine (next_any A b b.length w (hLd.below hB) hb (Nat.le_refl _) hlen r1 r2 r3 hr).mono ?_
  rintro e w' ⟨v0, rfl, hR, hB'⟩
  obtain ⟨A1, c1, rfl, hc, hC⟩ := Kd.R_reads hR
  exact ⟨A1, c1, rfl, hC, hc, below_then hB hB.size hB', hB'⟩

theorem new_any (w : World) : Calls Tryd.prog 17 #[] w fun e w' => e = .returned (.pointer (some ⟨w.heap.size, 0, none⟩)) ∧ w' = w.alloc (.cells #[.slice none 0 0, .bool false] 60) := by
  go_enter Tryd.func17, Tryd.ntmps17
  go_wp2
  go_ret
  exact ⟨rfl, rfl⟩

theorem short_any (A : Option Addr) (b : List Int) (c : Nat) (w : World) (hc : b.length ≤ c) :
    Calls Tryd.prog 10 #[.slice A b.length c] w fun e w' => e = .returned (.slice A (b.take 1500).length c) ∧ w' = w := by
  by_cases h : 1500 < b.length
  · obtain ⟨cut, _, hc2⟩ := cut_take A c b 1500 (by omega) (by omega) hc
    have e : (b.take (1500 : Int).toNat).length = (b.take 1500).length := rfl
    rw [e] at cut
    obtain ⟨s, hs⟩ : ∃ s, s = (b.take 1500).length := ⟨_, rfl⟩
    rw [← hs] at cut ⊢
    clear hs e hc2
    have hd : (1500 : Int) < b.length := by omega
    go_enter Tryd.func10, Tryd.ntmps10
    go_wp2
    go_ret
    exact ⟨rfl, rfl⟩
  · rw [List.take_of_length_le (by omega)]
    have hd : ¬ (1500 : Int) < b.length := by omega
    go_enter Tryd.func10, Tryd.ntmps10
    go_wp2
    go_ret
    exact ⟨rfl, rfl⟩

set_option maxHeartbeats 8000000 in
set_option maxRecDepth 100000 in
theorem shown_true (w : World) (hLd : Ld w) : Calls Tryd.prog 9 #[] w fun e w' => e = .returned (.bool true) ∧ Below w.heap.size w w' := by
  have HL := Aside0.mk hLd
  clear hLd
  have kc := fun (w : World) (C : Array Value) (n c : Nat) => Lib.run_convert_bytes_const (P := Tryd.prog) w 22 5 C n c Tryd.underlying22 Tryd.underlying5
  go_enter Tryd.func9, Tryd.ntmps9
  go_wp2_with fail
  refine (next_lit w _ HL.out (below_alloc (Below.refl _ _) _) _ [80, 73, 78, 71, 13, 10] (lit_bytes w _ _ (by decide)) (by decide) _ rfl _ _ _ ex_ping).mono ?_
  rintro e w1 ⟨A1, c1, rfl, hC1, hc1, hB1, -⟩
  obtain ⟨ad, e1, hcell⟩ := (Kd.reads_of_C (d := ByteArray.empty) hC1).2.2 (by decide)
  subst e1
  have HC1 := Aside0.mk (show w1.cell? ad = some (.string ⟨#[80, 73, 78, 71]⟩) by have := hcell 0 (by decide); rwa [show ad.add 0 = ad by simp [Addr.add]] at this)
  have HB1 := Aside0.mk hB1
  clear hC1 hB1 hcell
  go_wp2_with fail
  refine (next_lit w _ HL.out (below_then HB1.out HB1.out.size (below_alloc (Below.refl _ _) _)) _ [42, 49, 13, 10, 36, 52, 13, 10, 80, 73] (lit_bytes w1 _ _ (by decide)) (by decide) _ rfl _ _ _ ex_short).mono ?_
  rintro e w2 ⟨A2, c2, rfl, -, hc2, hB2, hB3⟩
  have HC2 := Aside0.mk (pw_cell_below hB3 (pw_cell_below (below_alloc (Below.refl _ _) _) HC1.out))
  have HB2 := Aside0.mk hB2
  clear hB2 hB3 HC1
  go_wp2_with fail
  refine (next_lit w _ HL.out (below_then HB2.out HB2.out.size (below_alloc (Below.refl _ _) _)) _ [42, 48, 13, 10] (lit_bytes w2 _ _ (by decide)) (by decide) _ rfl _ _ _ ex_none).mono ?_
  rintro e w3 ⟨A3, c3, rfl, -, hc3, hB3, hB4⟩
  have HC3 := Aside0.mk (pw_cell_below hB4 (pw_cell_below (below_alloc (Below.refl _ _) _) HC2.out))
  have HB3 := Aside0.mk hB3
  clear hB3 hB4 HC2
  have q1 := HC3.out
  go_wp2_with (go_at_call 17; refine (new_any _).mono ?_; rintro e w4 ⟨rfl, rfl⟩)
  go_wp2
  go_ret
  exact ⟨rfl, below_alloc HB3.out _⟩
end Go.Proofs.YtmbfapgamcbajaaDoor.X
