/- FrameBounds: its walk. -/
import Derived.Test.YtmbfapgamcbajaaDoorEFShown
import Derived.Test.YtmbfapgamcbajaaDoorPBounds
import Derived.Deep.RegionLaw
import Derived.IntWalk
import Derived.Test.YtmbfapgamcbajaaDoorWLast
set_option linter.unusedVariables false
set_option linter.unusedSimpArgs false
namespace Go.Proofs.YtmbfapgamcbajaaDoor.X
open Go.RowKit Go.Proofs.YtmbfapgamcbajaaDoorW.PrintWords Go.Proofs.YtmbfapgamcbajaaDoorW.PrintLast

theorem own_empty (W : World) (e : TypeId) (k : IntKind) (ok : Nat → Prop) (h : ok W.heap.size) : (Kd.int k).R e (W.alloc (.cells #[] e)) W.heap.size ok (.slice (some ⟨W.heap.size, 0, none⟩) 0 0) [] := by
  refine Kd.R_of_own ?_ ?_
  · have h := own_lit W W.heap.size e k [] (Nat.le_refl _) (by simp)
    simpa [nums, encs] using h
  · intro j hj
    simp [Value.ownBlock] at hj
    subst hj
    exact h

theorem own_emptyS (W : World) (e : TypeId) (ok : Nat → Prop) (h : ok W.heap.size) : Kd.string.R e (W.alloc (.cells #[] e)) W.heap.size ok (.slice (some ⟨W.heap.size, 0, none⟩) 0 0) [] := by
  refine Kd.R_of_own ?_ ?_
  · have h := own_lit_of (enc := Value.string) W W.heap.size e [] (Nat.le_refl _) (by simp)
    simpa [encs] using h
  · intro j hj
    simp [Value.ownBlock] at hj
    subst hj
    exact h

theorem lit_strs (w : World) (xs : List ByteArray) (fr : Nat × Nat) (hm : xs.length ≤ 9223372036854775807) : Kd.C Kd.string (w.alloc (.cells (xs.map Value.string).toArray 9 fr)) (some ⟨w.heap.size, 0, none⟩) xs.length xs := by
  refine Kd.C_of_reads (d := ByteArray.empty) (h1 := fun _ => rfl) ⟨rfl, hm, fun _ => ⟨_, rfl, fun j hj => ?_⟩⟩
  rw [add_plain]
  have hh : (w.alloc (.cells (xs.map Value.string).toArray 9 fr)).heap[w.heap.size]? = some (.cells (xs.map Value.string).toArray 9 fr) := by
    show (w.heap.push _)[w.heap.size]? = _
    simp
  unfold World.cell?
  dsimp only
  rw [hh]
  simp [hj]

theorem put_q (w0 : World) (A : Option Addr) (l : List ByteArray) (c : Nat) (w : World) (hLd : Ld w0) (hB : Below w0.heap.size w0 w) (m : Nat) (hm : m = l.length) (hC : Kd.C Kd.string w A l.length l) (hc : l.length ≤ c) (hl : l.length ≤ 1000) (hs : ∀ x ∈ l, x.size ≤ 1000) (q : Nat) (hq : (putU l).length = q) (b : List Int) (hb : NB (putU l) = b) :
    Calls Tryd.prog 15 #[.slice A m c] w fun e w' => ∃ (A' : Option Addr) (c' : Nat), e = .returned (.slice A' q c') ∧ Aside0 (q ≤ c') ∧ Aside0 (BC w' A' b) ∧ Aside0 (Below w0.heap.size w0 w') ∧ Aside0 (Below w.heap.size w w') := by
  subst hm
  refine (put_any A l c w (hLd.below hB) hC hc hl hs).mono ?_
  rintro e w' ⟨A', c', rfl, h1, h2, h3⟩
  subst hq hb
  exact ⟨A', c', rfl, ⟨h1⟩, ⟨h2⟩, ⟨below_then hB hB.size h3⟩, ⟨h3⟩⟩

theorem next_q (w0 : World) (A : Option Addr) (b : List Int) (c : Nat) (w : World) (hLd : Ld w0) (hB : Below w0.heap.size w0 w) (q : Nat) (hq : b.length = q) (hb : BC w A b) (hc : q ≤ c) (hlen : q ≤ 1000000) (r1 : List ByteArray) (r2 r3 : Int) (hr : nextB b = (r1, r2, r3)) (m : Nat) (hm : r1.length = m) :
    Calls Tryd.prog 11 #[.slice A q c] w fun e w' => ∃ (A1 : Option Addr) (c1 : Nat), e = .returned (.tuple #[.slice A1 m c1, .int .i64 r2, .int .i64 r3]) ∧ Aside0 (m ≤ c1) ∧ Aside0 (Kd.C Kd.string w' A1 r1.length r1) ∧ Aside0 (Below w0.heap.size w0 w') ∧ Aside0 (Below w.heap.size w w') := by
  subst hq hm
  refine (next_any A b c w (hLd.below hB) hb hc hlen r1 r2 r3 hr).mono ?_
  rintro e w' ⟨v0, rfl, hR, hB'⟩
  obtain ⟨A1, c1, rfl, hc1, hC1⟩ := Kd.R_reads hR
  exact ⟨A1, c1, rfl, ⟨hc1⟩, ⟨hC1⟩, ⟨below_then hB hB.size hB'⟩, ⟨hB'⟩⟩

set_option maxHeartbeats 8000000 in
set_option maxRecDepth 100000 in
theorem FrameBounds_walk (c many wv : Int) (w : World) (hLd : Ld w) (hc0 : 0 ≤ c) (hc1 : c ≤ 255) (hm0 : 0 ≤ many) (hm1 : many ≤ 65535) (hw0 : 0 ≤ wv) (hw1 : wv ≤ 255) :
    Calls Tryd.prog 5 #[.int .u8 c, .int .u16 many, .int .u8 wv] w fun e w' => e = .returned (.bool true) ∧ Below w.heap.size w w' := by
  have HL := Aside0.mk hLd
  clear hLd
  obtain ⟨n, hn⟩ : ∃ n : Nat, many % 601 = n := ⟨(many % 601).toNat, by omega⟩
  obtain ⟨k, hk⟩ : ∃ k : Nat, wv % 41 = k := ⟨(wv % 41).toNat, by omega⟩
  have hn6 : n ≤ 600 := by omega
  have hk4 : k ≤ 40 := by omega
  go_enter Tryd.func5, Tryd.ntmps5
  go_wp2_with (go_at_call 9; refine (shown_true _ HL.out).mono ?_; rintro e w1 ⟨rfl, hb⟩; have HW1 := Aside0.mk hb; clear hb)
  simp only [hn, hk]
  clear hn hk hm0 hm1 hw0 hw1
  have HO0 := Aside0.mk (own_empty w1 5 .u8 (fun _ => True) trivial)
  have HB0 := Aside0.mk (below_then HW1.out HW1.out.size (below_alloc (Below.refl _ _) (.cells #[] 5)))
  go_loopw [10, 11] (fun v10 v11 wr => ∃ j : Nat, j ≤ n ∧ v11 = .int .i64 j ∧ Aside0 (Kd.R (Kd.int .u8) 5 wr w.heap.size (fun _ => True) v10 (List.replicate j c)) ∧ Aside0 (Below w.heap.size w wr)) (fun _ v11 _ => n - (intOf v11).toNat)
  case atStart => exact ⟨0, Nat.zero_le _, rfl, ⟨Kd.R_lower HO0.out HW1.out.size⟩, HB0⟩
  case round =>
    clear HO0 HB0
    obtain ⟨j, hj, rfl, HR, HB⟩ := hrel
    by_cases hlt : j < n
    · have hI : (j : Int) < n := by omega
      have hrl : (List.replicate j c).length = j := List.length_replicate
      have HRL := Aside0.mk hrl
      clear hrl
      go_wp2_with (at_builtin; refine Kd.R_append (Kd.int .u8) (w0 := w) w.heap.size rfl (.tmp 38) (.tmp 40) 22 5 (.int .u8 0) 1 rfl Tryd.underlying22 infoB rfl (by decide) (by omega) _ _ c [.int .u8 c] (fun _ => True) (fun _ => False) rfl rfl rfl (fun _ hk => hk.elim) (fun _ _ => trivial) HR.out HB.out HB.out.size (by rw [HRL.out]; omega) ?_; intro v4 w4 ho hb hg hat; have HO4 := Aside0.mk ho; have HB4 := Aside0.mk hb; clear ho hb hg hat)
      go_roundw
      case rel =>
        refine ⟨j + 1, by omega, by go_num, ⟨?_⟩, HB4⟩
        rw [List.replicate_succ']
        exact HO4.out
      case measure => simp [intOf]; omega
    · obtain rfl : j = n := by omega
      have hI : ¬ ((j : Int) < j) := by omega
      obtain ⟨W, hW⟩ : ∃ W, W = List.replicate j c := ⟨_, rfl⟩
      have hWl : W.length = j := by rw [hW, List.length_replicate]
      rw [← hW] at HR
      obtain ⟨Aw, cw, ew, hcw, hCw⟩ := Kd.R_reads HR.out
      subst ew
      have HCW := Aside0.mk hCw
      obtain ⟨S, hS⟩ : ∃ S, S = strOfNums W := ⟨_, rfl⟩
      have hSs : S.size = j := by rw [hS, strNums_size, hWl]
      have HSe := Aside0.mk hS
      have HWl := Aside0.mk hWl
      have HSs := Aside0.mk hSs
      have hcv : (convert 22 9 (.slice Aw W.length cw)).run Tryd.prog wr = .ok (.string S) wr := by rw [hS]; exact cut_text wr Aw cw W hCw
      obtain ⟨q1, hq1⟩ : ∃ q, (putU [S]).length = q := ⟨_, rfl⟩
      have hq1l : q1 ≤ 2000 := by
        rw [← hq1]
        have h1 := bulk_len S (by omega)
        have h2 := itoaN_len 1 (by decide)
        simp [putU, lineP_len] at h1 h2 ⊢
        omega
      have HQ1 := Aside0.mk hq1
      obtain ⟨b1, hb1⟩ : ∃ b, NB (putU [S]) = b := ⟨_, rfl⟩
      have hb1l : b1.length = q1 := by rw [← hb1, NB_len, hq1]
      have HB1e := Aside0.mk hb1
      have HB1l := Aside0.mk hb1l
      obtain ⟨r1, r2, r3, hr⟩ : ∃ r1 r2 r3, nextB b1 = (r1, r2, r3) := ⟨_, _, _, rfl⟩
      obtain ⟨m1, hm1⟩ : ∃ m, r1.length = m := ⟨_, rfl⟩
      have HR1 := Aside0.mk hr
      have HM1 := Aside0.mk hm1
      have HLS := Aside0.mk (lit_strs wr [S] (0, 0) (by simp))
      clear hW hWl hCw hS hSs hq1 hb1 hb1l hr hm1 HR
      go_wp2_with (first | (go_at_call 15; refine (put_q w _ [S] 1 _ HL.out (below_then HB.out HB.out.size (below_alloc (Below.refl _ _) _)) 1 rfl HLS.out (Nat.le_refl _) (by simp) (fun x hx => by rw [List.mem_singleton.1 hx, HSs.out]; omega) q1 HQ1.out b1 HB1e.out).mono ?_; rintro e w2 ⟨A2, c2, rfl, h1, h2, h3, h4⟩) | (go_at_call 11; refine (next_q w A2 b1 c2 _ HL.out h3.out q1 HB1l.out h2.out h1.out (by omega) r1 r2 r3 HR1.out m1 HM1.out).mono ?_; rintro e w3 ⟨A3, c3, rfl, g1, g2, g3, g4⟩))
      have HCW3 := Aside0.mk (Kd.C_below HCW.out (below_then (below_then (below_alloc (Below.refl _ _) _) (by simp) h4.out) (below_then (below_alloc (Below.refl _ _) _) (by simp) h4.out).size g4.out))
      have HO1 := Aside0.mk (own_emptyS w3 9 (fun _ => True) trivial)
      have HB5 := Aside0.mk (below_then g3.out g3.out.size (below_alloc (Below.refl w3.heap.size w3) (.cells #[] 9)))
      have HBa := Aside0.mk (below_alloc (Below.refl w3.heap.size w3) (.cells #[] 9))
      clear hcv
      obtain ⟨wo, hwo⟩ : ∃ wo : World, wo = wr := ⟨_, rfl⟩
      rw [← hwo] at *
      clear hwo
      go_loopw [16, 17] (fun v16 v17 wr => ∃ i : Nat, i ≤ k ∧ v17 = .int .i64 i ∧ Aside0 (Kd.R Kd.string 9 wr w3.heap.size (fun _ => True) v16 (ws i)) ∧ Aside0 (Below w3.heap.size w3 wr)) (fun _ v17 _ => k - (intOf v17).toNat)
      case atStart => exact ⟨0, Nat.zero_le _, rfl, HO1, HBa⟩
      case round =>
        clear HO1 HBa
        obtain ⟨i, hi, rfl, HR, HB6⟩ := hrel
        by_cases hlt : i < k
        · have hI2 : (i : Int) < k := by omega
          have HRL := Aside0.mk (show (ws i).length = i from List.length_replicate)
          go_wp2_with (at_builtin; refine Kd.R_append Kd.string (w0 := w3) w3.heap.size rfl (.tmp 58) (.tmp 59) 25 9 (.string ⟨#[]⟩) 16 rfl Tryd.underlying25 infoS rfl (by decide) (by omega) _ _ ⟨#[119]⟩ [.string ⟨#[119]⟩] (fun _ => True) (fun _ => False) rfl rfl rfl (fun _ hk => hk.elim) (fun _ _ => trivial) HR.out HB6.out HB6.out.size (by rw [HRL.out]; omega) ?_; intro v4 w4 ho hb hg hat; have HO4 := Aside0.mk ho; have HB4 := Aside0.mk hb; clear ho hb hg hat)
          go_roundw
          case rel =>
            refine ⟨i + 1, by omega, by go_num, ⟨?_⟩, HB4⟩
            unfold ws
            rw [List.replicate_succ']
            exact HO4.out
          case measure => simp [intOf]; omega
        · obtain rfl : i = k := by omega
          have hI2 : ¬ ((i : Int) < i) := by omega
          obtain ⟨Ar, cr, er, hcr, hCr⟩ := Kd.R_reads HR.out
          have hwl : (ws i).length = i := List.length_replicate
          rw [hwl] at er hcr
          subst er
          have HCR := Aside0.mk hCr
          have HWL := Aside0.mk hwl
          have HB7 := Aside0.mk (below_then g3.out g3.out.size HB6.out)
          obtain ⟨q2, hq2⟩ : ∃ q, (putU (ws i)).length = q := ⟨_, rfl⟩
          have hq2l : q2 ≤ 60000 := by
            rw [← hq2]
            have h1 := flat_len (ws i) 1020 (fun v hv => bulk_len v (by have := ws_size i v hv; omega))
            have h2 := itoaN_len (ws i).length (by rw [hwl]; omega)
            rw [hwl] at h1
            simp only [putU, List.length_append, lineP_len]
            omega
          have HQ2 := Aside0.mk hq2
          obtain ⟨b2, hb2⟩ : ∃ b, NB (putU (ws i)) = b := ⟨_, rfl⟩
          have hb2l : b2.length = q2 := by rw [← hb2, NB_len, hq2]
          have HB2e := Aside0.mk hb2
          have HB2l := Aside0.mk hb2l
          obtain ⟨r4, r5, r6, hr4⟩ : ∃ r1 r2 r3, nextB b2 = (r1, r2, r3) := ⟨_, _, _, rfl⟩
          obtain ⟨m4, hm4⟩ : ∃ m, r4.length = m := ⟨_, rfl⟩
          have HR4 := Aside0.mk hr4
          have HM4 := Aside0.mk hm4
          obtain ⟨q3, hq3⟩ : ∃ q3, q3 = min 5 q2 := ⟨_, rfl⟩
          obtain ⟨b3, hb3⟩ : ∃ b3, b3 = b2.take q3 := ⟨_, rfl⟩
          have hb3l : b3.length = q3 := by rw [hb3, List.length_take, hb2l]; omega
          have HB3l := Aside0.mk hb3l
          have HB3e := Aside0.mk hb3
          have HQ3 := Aside0.mk hq3
          obtain ⟨r7, r8, r9, hr7⟩ : ∃ r1 r2 r3, nextB b3 = (r1, r2, r3) := ⟨_, _, _, rfl⟩
          obtain ⟨m7, hm7⟩ : ∃ m, r7.length = m := ⟨_, rfl⟩
          have HR7 := Aside0.mk hr7
          have HM7 := Aside0.mk hm7
          have hWS := ws_size i
          have HWS := Aside0.mk (show ∀ x ∈ ws i, x.size ≤ 1000 from fun x hx => by have := hWS x hx; omega)
          clear hCr hwl hq2 hb2 hb2l hr4 hm4 hq3 hb3 hb3l hr7 hm7 hWS HR
          go_wp2_with fail
          refine (put_q w Ar (ws i) cr _ HL.out HB7.out i HWL.out.symm HCR.out (by rw [HWL.out]; exact hcr) (by rw [HWL.out]; omega) HWS.out q2 HQ2.out b2 HB2e.out).mono ?_
          rintro e w4 ⟨A4, c4, rfl, p1, p2, p3, p4⟩
          go_wp2_with fail
          refine (next_q w A4 b2 c4 _ HL.out p3.out q2 HB2l.out p2.out p1.out (by omega) r4 r5 r6 HR4.out m4 HM4.out).mono ?_
          rintro e w5 ⟨A5, c5, rfl, n1, n2, n3, n4⟩
          have HCR5 := Aside0.mk (Kd.C_below HCR.out (below_then p4.out p4.out.size n4.out))
          have HCW5 := Aside0.mk (Kd.C_below HCW3.out (below_then HB6.out HB6.out.size (below_then p4.out p4.out.size n4.out)))
          go_wp2_with fail
          refine (put_q w Ar (ws i) cr _ HL.out n3.out i HWL.out.symm HCR5.out (by rw [HWL.out]; exact hcr) (by rw [HWL.out]; omega) HWS.out q2 HQ2.out b2 HB2e.out).mono ?_
          rintro e w6 ⟨A6, c6, rfl, s1, s2, s3, s4⟩
          have HCR6 := Aside0.mk (Kd.C_below HCR5.out s4.out)
          have HCW6 := Aside0.mk (Kd.C_below HCW5.out s4.out)
          obtain ⟨cut6, bc6, hc6⟩ := cut_take A6 c6 b2 (q3 : Int) (by omega) (by have := HB2l.out; have := HQ3.out; omega) (by rw [HB2l.out]; exact s1.out)
          simp only [Int.toNat_natCast] at cut6 bc6 hc6
          rw [← HB3e.out, HB3l.out] at hc6
          rw [← HB3e.out] at cut6 bc6
          rw [HB2l.out, HB3l.out] at cut6
          have BC6 := Aside0.mk (bc6 _ s2.out)
          go_wp2_with fail
          refine (put_q w Ar (ws i) cr _ HL.out s3.out i HWL.out.symm HCR6.out (by rw [HWL.out]; exact hcr) (by rw [HWL.out]; omega) HWS.out q2 HQ2.out b2 HB2e.out).mono ?_
          rintro e w7 ⟨A7, c7, rfl, t1, t2, t3, t4⟩
          have HCR7 := Aside0.mk (Kd.C_below HCR6.out t4.out)
          have HCW7 := Aside0.mk (Kd.C_below HCW6.out t4.out)
          have hmin : min (5 : Int) (q2 : Int) = (q3 : Int) := by have := HQ3.out; omega
          go_wp2_with fail
          refine (next_q w A6 b3 c6 _ HL.out t3.out q3 HB3l.out (Kd.C_below BC6.out t4.out) hc6 (by have := HQ3.out; omega) r7 r8 r9 HR7.out m7 HM7.out).mono ?_
          rintro e w8 ⟨A8, c8, rfl, u1, u2, u3, u4⟩
          clear hmin
          have e1 := next_one S (by rw [HSs.out]; omega)
          rw [HB1e.out, HR1.out, HSs.out] at e1
          have e4 := next_row i (by omega)
          rw [HB2e.out, HR4.out] at e4
          have HU3 := Aside0.mk u3.out
          by_cases h512 : 512 < j
          · rw [if_pos h512] at e1
            obtain ⟨-, e5⟩ := Prod.mk.inj e1
            obtain ⟨-, e6⟩ := Prod.mk.inj e5
            subst e6
            clear e1 e5 e4
            have hI5 : (512 : Int) < j := by omega
            go_wp2
            all_goals go_ret
            all_goals exact ⟨rfl, u3.out⟩
          · rw [if_neg h512] at e1
            obtain ⟨e5, e6⟩ := Prod.mk.inj e1
            obtain ⟨-, e7⟩ := Prod.mk.inj e6
            subst e5 e7
            have em : m1 = 1 := HM1.out.symm
            subst em
            clear e1 e6
            have hI5 : ¬ (512 : Int) < j := by omega
            obtain ⟨ad3, ea, hc3⟩ := (Kd.reads_of_C (d := ByteArray.empty) g2.out).2.2 (by simp)
            subst ea
            have hs3 : w3.cell? (ad3.add 0) = some (.string S) := hc3 0 (by simp)
            have hs8 : w8.cell? (ad3.add 0) = some (.string S) := pw_cell_below (below_then (below_then HB6.out HB6.out.size (below_then p4.out p4.out.size (below_then n4.out n4.out.size (below_then s4.out s4.out.size t4.out)))) (below_then HB6.out HB6.out.size (below_then p4.out p4.out.size (below_then n4.out n4.out.size (below_then s4.out s4.out.size t4.out)))).size u4.out) hs3
            rw [show ad3.add 0 = ad3 by simp [Addr.add]] at hs8
            have hcv8 : ∀ d, (convert 22 9 (.slice Aw W.length cw)).run Tryd.prog (w8.drewN d) = .ok (.string S) (w8.drewN d) := fun d => by rw [HSe.out]; exact cut_text _ Aw cw W (Kd.C_drewN (Kd.C_below HCW7.out u4.out) d)
            have hcvd : (convert 22 9 (.slice Aw W.length cw)).run Tryd.prog w8.drew = .ok (.string S) w8.drew := hcv8 1
            clear hc3 hs3
            by_cases hf : 1 ≤ i ∧ i ≤ 32
            · rw [if_pos hf] at e4
              obtain ⟨e5, e6⟩ := Prod.mk.inj e4
              obtain ⟨e7, e8⟩ := Prod.mk.inj e6
              have em4 : m4 = i := by rw [← HM4.out, e5]; exact HWL.out
              have er5 : r5 = (q2 : Int) := by rw [e7, HQ2.out]
              subst e8 em4 er5
              clear e4 e5 e6 e7
              have hf1 : (1 : Int) ≤ m4 := by omega
              have hf2 : (m4 : Int) ≤ 32 := by omega
              by_cases h10 : m4 < 10
              · have h10I : ¬ (10 : Int) ≤ m4 := by omega
                obtain ⟨l5, n5, e9⟩ := next_five m4 h10
                rw [HB2e.out, if_pos hf] at e9
                have eb : b2.take 5 = b3 := by rw [HB3e.out, HQ3.out, ← HB2l.out, List.take_eq_take_iff]; omega
                rw [eb, HR7.out] at e9
                obtain ⟨-, e11⟩ := Prod.mk.inj e9
                obtain ⟨-, e12⟩ := Prod.mk.inj e11
                subst e12
                clear e9 e11 eb
                have hd1 : decide ((m4 : Int) ≤ 32) = true := decide_eq_true hf2
                have hd3 : decide ((10 : Int) ≤ m4) = false := decide_eq_false h10I
                go_wp2_with fail
                have HCRd := Aside0.mk (Kd.C_drew (Kd.C_below HCR7.out u4.out))
                have HBd := Aside0.mk (show Below w.heap.size w w8.drew from pw_below_drewN u3.out 1)
                have hk8 : w8.drew.cell? ad3 = some (.string S) ∧ (convert 22 9 (.slice Aw W.length cw)).run Tryd.prog w8.drew = .ok (.string S) w8.drew := ⟨hs8, hcvd⟩
                go_region_held3 (fun wz => wz.cell? ad3 = some (.string S) ∧ (convert 22 9 (.slice Aw W.length cw)).run Tryd.prog wz = .ok (.string S) wz) (first | exact hk9 | exact hk8) (first | (go_at_call 15; (with_reducible refine (put_q w Ar (ws m4) cr _ HL.out HBd.out m4 HWL.out.symm HCRd.out (by rw [HWL.out]; exact hcr) (by rw [HWL.out]; omega) HWS.out q2 HQ2.out b2 HB2e.out).mono ?_); rintro e w9 ⟨A9, c9, rfl, y1, y2, y3, y4⟩; have hk9 : w9.cell? ad3 = some (.string S) ∧ (convert 22 9 (.slice Aw W.length cw)).run Tryd.prog w9 = .ok (.string S) w9 := ⟨pw_cell_below y4.out hs8, (by rw [HSe.out]; exact cut_text _ Aw cw W (Kd.C_below (Kd.C_drew (Kd.C_below HCW7.out u4.out)) y4.out))⟩))
                go_wp2
                go_ret
                exact ⟨rfl, y3.out⟩
              · have h10I : (10 : Int) ≤ m4 := by omega
                have hd1 : decide ((m4 : Int) ≤ 32) = true := decide_eq_true hf2
                have hd3 : decide ((10 : Int) ≤ m4) = true := decide_eq_true h10I
                go_wp2_with fail
                have HCRd := Aside0.mk (Kd.C_drew (Kd.C_below HCR7.out u4.out))
                have HBd := Aside0.mk (show Below w.heap.size w w8.drew from pw_below_drewN u3.out 1)
                have hk8 : w8.drew.cell? ad3 = some (.string S) ∧ (convert 22 9 (.slice Aw W.length cw)).run Tryd.prog w8.drew = .ok (.string S) w8.drew := ⟨hs8, hcvd⟩
                refine wp_region_held_drew (S := (fun wz => wz.cell? ad3 = some (.string S) ∧ (convert 22 9 (.slice Aw W.length cw)).run Tryd.prog wz = .ok (.string S) wz)) (by kernel_rfl) hk8 (fun _ => ?_)
                refine' wpAnyH_take (i := 0) (oi := ?oi0) (v := ?v0) ?hi0 (by kernel_rfl) (by kernel_rfl) (by kernel_rfl) ?hq0 ?hy0 hk8 ?hr0
                case hi0 => (simp only [List.getElem?_toArray, List.getElem?_cons_succ, List.getElem?_cons_zero]; rfl)
                case hq0 => exact fun _ _ _ h => h
                case hy0 => (first | (refine Or.inr ⟨?_, by rfl⟩; first | rfl | (go_simp; done)) | (refine Or.inl ⟨by rfl, ?_⟩; intro wz hwz; obtain ⟨z1, z2⟩ := hwz; go_simp; first | done | rfl))
                try simp only [Act.put, List.setIfInBounds_toArray, List.set_cons_zero, List.set_cons_succ]
                refine' wpAnyH_take (i := 1) (oi := ?oi1) (v := ?v1) ?hi1 (by kernel_rfl) (by kernel_rfl) (by kernel_rfl) ?hq1 ?hy1 hk8 ?hr1
                case hi1 => (simp only [List.getElem?_toArray, List.getElem?_cons_succ, List.getElem?_cons_zero]; rfl)
                case hq1 => exact fun _ _ _ h => h
                case hy1 => (first | (refine Or.inr ⟨?_, by rfl⟩; first | rfl | (go_simp; done)) | (refine Or.inl ⟨by rfl, ?_⟩; intro wz hwz; obtain ⟨z1, z2⟩ := hwz; go_simp; first | done | rfl))
                try simp only [Act.put, List.setIfInBounds_toArray, List.set_cons_zero, List.set_cons_succ]
                refine' wpAnyH_take (i := 2) (oi := ?oi2) (v := ?v2) ?hi2 (by kernel_rfl) (by kernel_rfl) (by kernel_rfl) ?hq2 ?hy2 hk8 ?hr2
                case hi2 => (simp only [List.getElem?_toArray, List.getElem?_cons_succ, List.getElem?_cons_zero]; rfl)
                case hq2 => exact fun _ _ _ h => h
                case hy2 => (first | (refine Or.inr ⟨?_, by rfl⟩; first | rfl | (go_simp; done)) | (refine Or.inl ⟨by rfl, ?_⟩; intro wz hwz; obtain ⟨z1, z2⟩ := hwz; go_simp; first | done | rfl))
                try simp only [Act.put, List.setIfInBounds_toArray, List.set_cons_zero, List.set_cons_succ]
                refine' wpAnyH_take (i := 3) (oi := ?oi3) (v := ?v3) ?hi3 (by kernel_rfl) (by kernel_rfl) (by kernel_rfl) ?hq3 ?hy3 hk8 ?hr3
                case hi3 => (simp only [List.getElem?_toArray, List.getElem?_cons_succ, List.getElem?_cons_zero]; rfl)
                case hq3 => exact fun _ _ _ h => h
                case hy3 => (first | (refine Or.inr ⟨?_, by rfl⟩; first | rfl | (go_simp; done)) | (refine Or.inl ⟨by rfl, ?_⟩; intro wz hwz; obtain ⟨z1, z2⟩ := hwz; go_simp; first | done | rfl))
                try simp only [Act.put, List.setIfInBounds_toArray, List.set_cons_zero, List.set_cons_succ]
                refine' wpAnyH_take (i := 4) (oi := ?oi4) (v := ?v4) ?hi4 (by kernel_rfl) (by kernel_rfl) (by kernel_rfl) ?hq4 ?hy4 hk8 ?hr4
                case hi4 => (simp only [List.getElem?_toArray, List.getElem?_cons_succ, List.getElem?_cons_zero]; rfl)
                case hq4 => exact fun _ _ _ h => h
                case hy4 => (first | (refine Or.inr ⟨?_, by rfl⟩; first | rfl | (go_simp; done)) | (refine Or.inl ⟨by rfl, ?_⟩; intro wz hwz; obtain ⟨z1, z2⟩ := hwz; go_simp; first | done | rfl))
                try simp only [Act.put, List.setIfInBounds_toArray, List.set_cons_zero, List.set_cons_succ]
                refine' wpAnyH_take (i := 5) (oi := ?oi5) (v := ?v5) ?hi5 (by kernel_rfl) (by kernel_rfl) (by kernel_rfl) ?hq5 ?hy5 hk8 ?hr5
                case hi5 => (simp only [List.getElem?_toArray, List.getElem?_cons_succ, List.getElem?_cons_zero]; rfl)
                case hq5 => exact fun _ _ _ h => h
                case hy5 => (first | (refine Or.inr ⟨?_, by rfl⟩; first | rfl | (go_simp; done)) | (refine Or.inl ⟨by rfl, ?_⟩; intro wz hwz; obtain ⟨z1, z2⟩ := hwz; go_simp; first | done | rfl))
                try simp only [Act.put, List.setIfInBounds_toArray, List.set_cons_zero, List.set_cons_succ]
                refine' wpAnyH_take (i := 6) (oi := ?oi6) (v := ?v6) ?hi6 (by kernel_rfl) (by kernel_rfl) (by kernel_rfl) ?hq6 ?hy6 hk8 ?hr6
                case hi6 => (simp only [List.getElem?_toArray, List.getElem?_cons_succ, List.getElem?_cons_zero]; rfl)
                case hq6 => exact fun _ _ _ h => h
                case hy6 => (first | (refine Or.inr ⟨?_, by rfl⟩; first | rfl | (go_simp; done)) | (refine Or.inl ⟨by rfl, ?_⟩; intro wz hwz; obtain ⟨z1, z2⟩ := hwz; go_simp; first | done | rfl))
                try simp only [Act.put, List.setIfInBounds_toArray, List.set_cons_zero, List.set_cons_succ]
                refine' wpAnyH_take (i := 7) (oi := ?oi7) (v := ?v7) ?hi7 (by kernel_rfl) (by kernel_rfl) (by kernel_rfl) ?hq7 ?hy7 hk8 ?hr7
                case hi7 => (simp only [List.getElem?_toArray, List.getElem?_cons_succ, List.getElem?_cons_zero]; rfl)
                case hq7 => exact fun _ _ _ h => h
                case hy7 => (first | (refine Or.inr ⟨?_, by rfl⟩; first | rfl | (go_simp; done)) | (refine Or.inl ⟨by rfl, ?_⟩; intro wz hwz; obtain ⟨z1, z2⟩ := hwz; go_simp; first | done | rfl))
                try simp only [Act.put, List.setIfInBounds_toArray, List.set_cons_zero, List.set_cons_succ]
                refine' wpAnyH_take (i := 8) (oi := ?oi8) (v := ?v8) ?hi8 (by kernel_rfl) (by kernel_rfl) (by kernel_rfl) ?hq8 ?hy8 hk8 ?hr8
                case hi8 => (simp only [List.getElem?_toArray, List.getElem?_cons_succ, List.getElem?_cons_zero]; rfl)
                case hq8 => exact fun _ _ _ h => h
                case hy8 => (first | (refine Or.inr ⟨?_, by rfl⟩; first | rfl | (go_simp; done)) | (refine Or.inl ⟨by rfl, ?_⟩; intro wz hwz; obtain ⟨z1, z2⟩ := hwz; go_simp; first | done | rfl))
                try simp only [Act.put, List.setIfInBounds_toArray, List.set_cons_zero, List.set_cons_succ]
                refine' wpAnyH_take (i := 9) (oi := ?oi9) (v := ?v9) ?hi9 (by kernel_rfl) (by kernel_rfl) (by kernel_rfl) ?hq9 ?hy9 hk8 ?hr9
                case hi9 => (simp only [List.getElem?_toArray, List.getElem?_cons_succ, List.getElem?_cons_zero]; rfl)
                case hq9 => exact fun _ _ _ h => h
                case hy9 => (first | (refine Or.inr ⟨?_, by rfl⟩; first | rfl | (go_simp; done)) | (refine Or.inl ⟨by rfl, ?_⟩; intro wz hwz; obtain ⟨z1, z2⟩ := hwz; go_simp; first | done | rfl))
                try simp only [Act.put, List.setIfInBounds_toArray, List.set_cons_zero, List.set_cons_succ]
                refine' wpAnyH_take (i := 10) (oi := ?oi10) (v := ?v10) ?hi10 (by kernel_rfl) (by kernel_rfl) (by kernel_rfl) ?hq10 ?hy10 hk8 ?hr10
                case hi10 => (simp only [List.getElem?_toArray, List.getElem?_cons_succ, List.getElem?_cons_zero]; rfl)
                case hq10 => exact fun _ _ _ h => h
                case hy10 => (first | (refine Or.inr ⟨?_, by rfl⟩; first | rfl | (go_simp; done)) | (refine Or.inl ⟨by rfl, ?_⟩; intro wz hwz; obtain ⟨z1, z2⟩ := hwz; go_simp; first | done | rfl))
                try simp only [Act.put, List.setIfInBounds_toArray, List.set_cons_zero, List.set_cons_succ]
                refine' wpAnyH_take (i := 11) (oi := ?oi11) (v := ?v11) ?hi11 (by kernel_rfl) (by kernel_rfl) (by kernel_rfl) ?hq11 ?hy11 hk8 ?hr11
                case hi11 => (simp only [List.getElem?_toArray, List.getElem?_cons_succ, List.getElem?_cons_zero]; rfl)
                case hq11 => exact fun _ _ _ h => h
                case hy11 => (first | (refine Or.inr ⟨?_, by rfl⟩; first | rfl | (go_simp; done)) | (refine Or.inl ⟨by rfl, ?_⟩; intro wz hwz; obtain ⟨z1, z2⟩ := hwz; go_simp; first | done | rfl))
                try simp only [Act.put, List.setIfInBounds_toArray, List.set_cons_zero, List.set_cons_succ]
                refine' wpAnyH_take (i := 12) (oi := ?oi12) (v := ?v12) ?hi12 (by kernel_rfl) (by kernel_rfl) (by kernel_rfl) ?hq12 ?hy12 hk8 ?hr12
                case hi12 => (simp only [List.getElem?_toArray, List.getElem?_cons_succ, List.getElem?_cons_zero]; rfl)
                case hq12 => exact fun _ _ _ h => h
                case hy12 => (first | (refine Or.inr ⟨?_, by rfl⟩; first | rfl | (go_simp; done)) | (refine Or.inl ⟨by rfl, ?_⟩; intro wz hwz; obtain ⟨z1, z2⟩ := hwz; go_simp; first | done | rfl))
                try simp only [Act.put, List.setIfInBounds_toArray, List.set_cons_zero, List.set_cons_succ]
                refine' wpAnyH_take (i := 13) (oi := ?oi13) (v := ?v13) ?hi13 (by kernel_rfl) (by kernel_rfl) (by kernel_rfl) ?hq13 ?hy13 hk8 ?hr13
                case hi13 => (simp only [List.getElem?_toArray, List.getElem?_cons_succ, List.getElem?_cons_zero]; rfl)
                case hq13 => exact fun _ _ _ h => h
                case hy13 => (first | (refine Or.inr ⟨?_, by rfl⟩; first | rfl | (go_simp; done)) | (refine Or.inl ⟨by rfl, ?_⟩; intro wz hwz; obtain ⟨z1, z2⟩ := hwz; go_simp; first | done | rfl))
                try simp only [Act.put, List.setIfInBounds_toArray, List.set_cons_zero, List.set_cons_succ]
                refine' wpAnyH_take (i := 14) (oi := ?oi14) (v := ?v14) ?hi14 (by kernel_rfl) (by kernel_rfl) (by kernel_rfl) ?hq14 ?hy14 hk8 ?hr14
                case hi14 => (simp only [List.getElem?_toArray, List.getElem?_cons_succ, List.getElem?_cons_zero]; rfl)
                case hq14 => exact fun _ _ _ h => h
                case hy14 => (first | (refine Or.inr ⟨?_, by rfl⟩; first | rfl | (go_simp; done)) | (refine Or.inl ⟨by rfl, ?_⟩; intro wz hwz; obtain ⟨z1, z2⟩ := hwz; go_simp; first | done | rfl))
                try simp only [Act.put, List.setIfInBounds_toArray, List.set_cons_zero, List.set_cons_succ]
                refine' wpAnyH_take (i := 15) (oi := ?oi15) (v := ?v15) ?hi15 (by kernel_rfl) (by kernel_rfl) (by kernel_rfl) ?hq15 ?hy15 hk8 ?hr15
                case hi15 => (simp only [List.getElem?_toArray, List.getElem?_cons_succ, List.getElem?_cons_zero]; rfl)
                case hq15 => exact fun _ _ _ h => h
                case hy15 => (first | (refine Or.inr ⟨?_, by rfl⟩; first | rfl | (go_simp; done)) | (refine Or.inl ⟨by rfl, ?_⟩; intro wz hwz; obtain ⟨z1, z2⟩ := hwz; go_simp; first | done | rfl))
                try simp only [Act.put, List.setIfInBounds_toArray, List.set_cons_zero, List.set_cons_succ]
                refine' wpAnyH_take (i := 16) (oi := ?oi16) (v := ?v16) ?hi16 (by kernel_rfl) (by kernel_rfl) (by kernel_rfl) ?hq16 ?hy16 hk8 ?hr16
                case hi16 => (simp only [List.getElem?_toArray, List.getElem?_cons_succ, List.getElem?_cons_zero]; rfl)
                case hq16 => exact fun _ _ _ h => h
                case hy16 => (first | (refine Or.inr ⟨?_, by rfl⟩; first | rfl | (go_simp; done)) | (refine Or.inl ⟨by rfl, ?_⟩; intro wz hwz; obtain ⟨z1, z2⟩ := hwz; go_simp; first | done | rfl))
                try simp only [Act.put, List.setIfInBounds_toArray, List.set_cons_zero, List.set_cons_succ]
                refine' wpAnyH_take (i := 17) (oi := ?oi17) (v := ?v17) ?hi17 (by kernel_rfl) (by kernel_rfl) (by kernel_rfl) ?hq17 ?hy17 hk8 ?hr17
                case hi17 => (simp only [List.getElem?_toArray, List.getElem?_cons_succ, List.getElem?_cons_zero]; rfl)
                case hq17 => exact fun _ _ _ h => h
                case hy17 => (first | (refine Or.inr ⟨?_, by rfl⟩; first | rfl | (go_simp; done)) | (refine Or.inl ⟨by rfl, ?_⟩; intro wz hwz; obtain ⟨z1, z2⟩ := hwz; go_simp; first | done | rfl))
                try simp only [Act.put, List.setIfInBounds_toArray, List.set_cons_zero, List.set_cons_succ]
                refine' wpAnyH_take (i := 18) (oi := ?oi18) (v := ?v18) ?hi18 (by kernel_rfl) (by kernel_rfl) (by kernel_rfl) ?hq18 ?hy18 hk8 ?hr18
                case hi18 => (simp only [List.getElem?_toArray, List.getElem?_cons_succ, List.getElem?_cons_zero]; rfl)
                case hq18 => exact fun _ _ _ h => h
                case hy18 => (first | (refine Or.inr ⟨?_, by rfl⟩; first | rfl | (go_simp; done)) | (refine Or.inl ⟨by rfl, ?_⟩; intro wz hwz; obtain ⟨z1, z2⟩ := hwz; go_simp; first | done | rfl))
                try simp only [Act.put, List.setIfInBounds_toArray, List.set_cons_zero, List.set_cons_succ]
                refine' wpAnyH_take (i := 19) (oi := ?oi19) (v := ?v19) ?hi19 (by kernel_rfl) (by kernel_rfl) (by kernel_rfl) ?hq19 ?hy19 hk8 ?hr19
                case hi19 => (simp only [List.getElem?_toArray, List.getElem?_cons_succ, List.getElem?_cons_zero]; rfl)
                case hq19 => exact fun _ _ _ h => h
                case hy19 => (first | (refine Or.inr ⟨?_, by rfl⟩; first | rfl | (go_simp; done)) | (refine Or.inl ⟨by rfl, ?_⟩; intro wz hwz; obtain ⟨z1, z2⟩ := hwz; go_simp; first | done | rfl))
                try simp only [Act.put, List.setIfInBounds_toArray, List.set_cons_zero, List.set_cons_succ]
                refine' wpAnyH_take (i := 20) (oi := ?oi20) (v := ?v20) ?hi20 (by kernel_rfl) (by kernel_rfl) (by kernel_rfl) ?hq20 ?hy20 hk8 ?hr20
                case hi20 => (simp only [List.getElem?_toArray, List.getElem?_cons_succ, List.getElem?_cons_zero]; rfl)
                case hq20 => exact fun _ _ _ h => h
                case hy20 => (first | (refine Or.inr ⟨?_, by rfl⟩; first | rfl | (go_simp; done)) | (refine Or.inl ⟨by rfl, ?_⟩; intro wz hwz; obtain ⟨z1, z2⟩ := hwz; go_simp; first | done | rfl))
                try simp only [Act.put, List.setIfInBounds_toArray, List.set_cons_zero, List.set_cons_succ]
                refine' wpAnyH_take (i := 21) (oi := ?oi21) (v := ?v21) ?hi21 (by kernel_rfl) (by kernel_rfl) (by kernel_rfl) ?hq21 ?hy21 hk8 ?hr21
                case hi21 => (simp only [List.getElem?_toArray, List.getElem?_cons_succ, List.getElem?_cons_zero]; rfl)
                case hq21 => exact fun _ _ _ h => h
                case hy21 => (first | (refine Or.inr ⟨?_, by rfl⟩; first | rfl | (go_simp; done)) | (refine Or.inl ⟨by rfl, ?_⟩; intro wz hwz; obtain ⟨z1, z2⟩ := hwz; go_simp; first | done | rfl))
                try simp only [Act.put, List.setIfInBounds_toArray, List.set_cons_zero, List.set_cons_succ]
                refine' wpAnyH_take (i := 22) (oi := ?oi22) (v := ?v22) ?hi22 (by kernel_rfl) (by kernel_rfl) (by kernel_rfl) ?hq22 ?hy22 hk8 ?hr22
                case hi22 => (simp only [List.getElem?_toArray, List.getElem?_cons_succ, List.getElem?_cons_zero]; rfl)
                case hq22 => exact fun _ _ _ h => h
                case hy22 => (first | (refine Or.inr ⟨?_, by rfl⟩; first | rfl | (go_simp; done)) | (refine Or.inl ⟨by rfl, ?_⟩; intro wz hwz; obtain ⟨z1, z2⟩ := hwz; go_simp; first | done | rfl))
                try simp only [Act.put, List.setIfInBounds_toArray, List.set_cons_zero, List.set_cons_succ]
                refine' wpAnyH_take (i := 23) (oi := ?oi23) (v := ?v23) ?hi23 (by kernel_rfl) (by kernel_rfl) (by kernel_rfl) ?hq23 ?hy23 hk8 ?hr23
                case hi23 => (simp only [List.getElem?_toArray, List.getElem?_cons_succ, List.getElem?_cons_zero]; rfl)
                case hq23 => exact fun _ _ _ h => h
                case hy23 => (first | (refine Or.inr ⟨?_, by rfl⟩; first | rfl | (go_simp; done)) | (refine Or.inl ⟨by rfl, ?_⟩; intro wz hwz; obtain ⟨z1, z2⟩ := hwz; go_simp; first | done | rfl))
                try simp only [Act.put, List.setIfInBounds_toArray, List.set_cons_zero, List.set_cons_succ]
                refine' wpAnyH_take (i := 24) (oi := ?oi24) (v := ?v24) ?hi24 (by kernel_rfl) (by kernel_rfl) (by kernel_rfl) ?hq24 ?hy24 hk8 ?hr24
                case hi24 => (simp only [List.getElem?_toArray, List.getElem?_cons_succ, List.getElem?_cons_zero]; rfl)
                case hq24 => exact fun _ _ _ h => h
                case hy24 => (first | (refine Or.inr ⟨?_, by rfl⟩; first | rfl | (go_simp; done)) | (refine Or.inl ⟨by rfl, ?_⟩; intro wz hwz; obtain ⟨z1, z2⟩ := hwz; go_simp; first | done | rfl))
                try simp only [Act.put, List.setIfInBounds_toArray, List.set_cons_zero, List.set_cons_succ]
                refine' wpAnyH_take (i := 25) (oi := ?oi25) (v := ?v25) ?hi25 (by kernel_rfl) (by kernel_rfl) (by kernel_rfl) ?hq25 ?hy25 hk8 ?hr25
                case hi25 => (simp only [List.getElem?_toArray, List.getElem?_cons_succ, List.getElem?_cons_zero]; rfl)
                case hq25 => exact fun _ _ _ h => h
                case hy25 => (first | (refine Or.inr ⟨?_, by rfl⟩; first | rfl | (go_simp; done)) | (refine Or.inl ⟨by rfl, ?_⟩; intro wz hwz; obtain ⟨z1, z2⟩ := hwz; go_simp; first | done | rfl))
                try simp only [Act.put, List.setIfInBounds_toArray, List.set_cons_zero, List.set_cons_succ]
                refine' wpAnyH_take (i := 26) (oi := ?oi26) (v := ?v26) ?hi26 (by kernel_rfl) (by kernel_rfl) (by kernel_rfl) ?hq26 ?hy26 hk8 ?hr26
                case hi26 => (simp only [List.getElem?_toArray, List.getElem?_cons_succ, List.getElem?_cons_zero]; rfl)
                case hq26 => exact fun _ _ _ h => h
                case hy26 => (first | (refine Or.inr ⟨?_, by rfl⟩; first | rfl | (go_simp; done)) | (refine Or.inl ⟨by rfl, ?_⟩; intro wz hwz; obtain ⟨z1, z2⟩ := hwz; go_simp; first | done | rfl))
                try simp only [Act.put, List.setIfInBounds_toArray, List.set_cons_zero, List.set_cons_succ]
                refine' wpAnyH_take (i := 27) (oi := ?oi27) (v := ?v27) ?hi27 (by kernel_rfl) (by kernel_rfl) (by kernel_rfl) ?hq27 ?hy27 hk8 ?hr27
                case hi27 => (simp only [List.getElem?_toArray, List.getElem?_cons_succ, List.getElem?_cons_zero]; rfl)
                case hq27 => exact fun _ _ _ h => h
                case hy27 => (first | (refine Or.inr ⟨?_, by rfl⟩; first | rfl | (go_simp; done)) | (refine Or.inl ⟨by rfl, ?_⟩; intro wz hwz; obtain ⟨z1, z2⟩ := hwz; go_simp; first | done | rfl))
                try simp only [Act.put, List.setIfInBounds_toArray, List.set_cons_zero, List.set_cons_succ]
                refine' wpAnyH_take (i := 28) (oi := ?oi28) (v := ?v28) ?hi28 (by kernel_rfl) (by kernel_rfl) (by kernel_rfl) ?hq28 ?hy28 hk8 ?hr28
                case hi28 => (simp only [List.getElem?_toArray, List.getElem?_cons_succ, List.getElem?_cons_zero]; rfl)
                case hq28 => exact fun _ _ _ h => h
                case hy28 => (first | (refine Or.inr ⟨?_, by rfl⟩; first | rfl | (go_simp; done)) | (refine Or.inl ⟨by rfl, ?_⟩; intro wz hwz; obtain ⟨z1, z2⟩ := hwz; go_simp; first | done | rfl))
                try simp only [Act.put, List.setIfInBounds_toArray, List.set_cons_zero, List.set_cons_succ]
                refine' wpAnyH_take (i := 29) (oi := ?oi29) (v := ?v29) ?hi29 (by kernel_rfl) (by kernel_rfl) (by kernel_rfl) ?hq29 ?hy29 hk8 ?hr29
                case hi29 => (simp only [List.getElem?_toArray, List.getElem?_cons_succ, List.getElem?_cons_zero]; rfl)
                case hq29 => exact fun _ _ _ h => h
                case hy29 => (first | (refine Or.inr ⟨?_, by rfl⟩; first | rfl | (go_simp; done)) | (refine Or.inl ⟨by rfl, ?_⟩; intro wz hwz; obtain ⟨z1, z2⟩ := hwz; go_simp; first | done | rfl))
                try simp only [Act.put, List.setIfInBounds_toArray, List.set_cons_zero, List.set_cons_succ]
                refine' wpAnyH_take (i := 30) (oi := ?oi30) (v := ?v30) ?hi30 (by kernel_rfl) (by kernel_rfl) (by kernel_rfl) ?hq30 ?hy30 hk8 ?hr30
                case hi30 => (simp only [List.getElem?_toArray, List.getElem?_cons_succ, List.getElem?_cons_zero]; rfl)
                case hq30 => exact fun _ _ _ h => h
                case hy30 => (first | (refine Or.inr ⟨?_, by rfl⟩; first | rfl | (go_simp; done)) | (refine Or.inl ⟨by rfl, ?_⟩; intro wz hwz; obtain ⟨z1, z2⟩ := hwz; go_simp; first | done | rfl))
                try simp only [Act.put, List.setIfInBounds_toArray, List.set_cons_zero, List.set_cons_succ]
                refine' wpAnyH_take (i := 31) (oi := ?oi31) (v := ?v31) ?hi31 (by kernel_rfl) (by kernel_rfl) (by kernel_rfl) ?hq31 ?hy31 hk8 ?hr31
                case hi31 => (simp only [List.getElem?_toArray, List.getElem?_cons_succ, List.getElem?_cons_zero]; rfl)
                case hq31 => exact fun _ _ _ h => h
                case hy31 => (first | (refine Or.inr ⟨?_, by rfl⟩; first | rfl | (go_simp; done)) | (refine Or.inl ⟨by rfl, ?_⟩; intro wz hwz; obtain ⟨z1, z2⟩ := hwz; go_simp; first | done | rfl))
                try simp only [Act.put, List.setIfInBounds_toArray, List.set_cons_zero, List.set_cons_succ]
                refine' wpAnyH_take (i := 32) (oi := ?oi32) (v := ?v32) ?hi32 (by kernel_rfl) (by kernel_rfl) (by kernel_rfl) ?hq32 ?hy32 hk8 ?hr32
                case hi32 => (simp only [List.getElem?_toArray, List.getElem?_cons_succ, List.getElem?_cons_zero]; rfl)
                case hq32 => exact fun _ _ _ h => h
                case hy32 => (first | (refine Or.inr ⟨?_, by rfl⟩; first | rfl | (go_simp; done)) | (refine Or.inl ⟨by rfl, ?_⟩; intro wz hwz; obtain ⟨z1, z2⟩ := hwz; go_simp; first | done | rfl))
                try simp only [Act.put, List.setIfInBounds_toArray, List.set_cons_zero, List.set_cons_succ]
                refine' wpAnyH_take (i := 33) (oi := ?oi33) (v := ?v33) ?hi33 (by kernel_rfl) (by kernel_rfl) (by kernel_rfl) ?hq33 ?hy33 hk8 ?hr33
                case hi33 => (simp only [List.getElem?_toArray, List.getElem?_cons_succ, List.getElem?_cons_zero]; rfl)
                case hq33 => exact fun _ _ _ h => h
                case hy33 => (first | (refine Or.inr ⟨?_, by rfl⟩; first | rfl | (go_simp; done)) | (refine Or.inl ⟨by rfl, ?_⟩; intro wz hwz; obtain ⟨z1, z2⟩ := hwz; go_simp; first | done | rfl))
                try simp only [Act.put, List.setIfInBounds_toArray, List.set_cons_zero, List.set_cons_succ]
                refine' wpAnyH_take (i := 34) (oi := ?oi34) (v := ?v34) ?hi34 (by kernel_rfl) (by kernel_rfl) (by kernel_rfl) ?hq34 ?hy34 hk8 ?hr34
                case hi34 => (simp only [List.getElem?_toArray, List.getElem?_cons_succ, List.getElem?_cons_zero]; rfl)
                case hq34 => exact fun _ _ _ h => h
                case hy34 => (first | (refine Or.inr ⟨?_, by rfl⟩; first | rfl | (go_simp; done)) | (refine Or.inl ⟨by rfl, ?_⟩; intro wz hwz; obtain ⟨z1, z2⟩ := hwz; go_simp; first | done | rfl))
                try simp only [Act.put, List.setIfInBounds_toArray, List.set_cons_zero, List.set_cons_succ]
                refine wpAnyH_ready (rs := [35]) (by kernel_rfl) (by simp) ?_
                refine AllReadyH.cons (o := ?oi35) ?hi35 (fun K hK => ?hs35) AllReadyH.nil
                case hi35 => (simp only [List.getElem?_toArray, List.getElem?_cons_succ, List.getElem?_cons_zero]; rfl)
                go_simp
                refine ((put_q w Ar (ws m4) cr _ HL.out HBd.out m4 HWL.out.symm HCRd.out (by rw [HWL.out]; exact hcr) (by rw [HWL.out]; omega) HWS.out q2 HQ2.out b2 HB2e.out)).mono ?_
                (rintro e w9 ⟨A9, c9, rfl, y1, y2, y3, y4⟩; have hk9 : w9.cell? ad3 = some (.string S) ∧ (convert 22 9 (.slice Aw W.length cw)).run Tryd.prog w9 = .ok (.string S) w9 := ⟨pw_cell_below y4.out hs8, (by rw [HSe.out]; exact cut_text _ Aw cw W (Kd.C_below (Kd.C_drew (Kd.C_below HCW7.out u4.out)) y4.out))⟩)
                try go_wp2_with fail
                refine hK.out _ _ hk9 (fun _ => ?_)
                clear hK K
                try simp only [Act.put, List.setIfInBounds_toArray, List.set_cons_zero, List.set_cons_succ]
                refine' wpAnyH_take (i := 36) (oi := ?oi36) (v := ?v36) ?hi36 (by kernel_rfl) (by kernel_rfl) (by kernel_rfl) ?hq36 ?hy36 hk9 ?hr36
                case hi36 => (simp only [List.getElem?_toArray, List.getElem?_cons_succ, List.getElem?_cons_zero]; rfl)
                case hq36 => exact fun _ _ _ h => h
                case hy36 => (first | (refine Or.inr ⟨?_, by rfl⟩; first | rfl | (go_simp; done)) | (refine Or.inl ⟨by rfl, ?_⟩; intro wz hwz; obtain ⟨z1, z2⟩ := hwz; go_simp; first | done | rfl))
                try simp only [Act.put, List.setIfInBounds_toArray, List.set_cons_zero, List.set_cons_succ]
                refine' wpAnyH_take (i := 37) (oi := ?oi37) (v := ?v37) ?hi37 (by kernel_rfl) (by kernel_rfl) (by kernel_rfl) ?hq37 ?hy37 hk9 ?hr37
                case hi37 => (simp only [List.getElem?_toArray, List.getElem?_cons_succ, List.getElem?_cons_zero]; rfl)
                case hq37 => exact fun _ _ _ h => h
                case hy37 => (first | (refine Or.inr ⟨?_, by rfl⟩; first | rfl | (go_simp; done)) | (refine Or.inl ⟨by rfl, ?_⟩; intro wz hwz; obtain ⟨z1, z2⟩ := hwz; go_simp; first | done | rfl))
                try simp only [Act.put, List.setIfInBounds_toArray, List.set_cons_zero, List.set_cons_succ]
                refine' wpAnyH_take (i := 38) (oi := ?oi38) (v := ?v38) ?hi38 (by kernel_rfl) (by kernel_rfl) (by kernel_rfl) ?hq38 ?hy38 hk9 ?hr38
                case hi38 => (simp only [List.getElem?_toArray, List.getElem?_cons_succ, List.getElem?_cons_zero]; rfl)
                case hq38 => exact fun _ _ _ h => h
                case hy38 => (first | (refine Or.inr ⟨?_, by rfl⟩; first | rfl | (go_simp; done)) | (refine Or.inl ⟨by rfl, ?_⟩; intro wz hwz; obtain ⟨z1, z2⟩ := hwz; go_simp; first | done | rfl))
                try simp only [Act.put, List.setIfInBounds_toArray, List.set_cons_zero, List.set_cons_succ]
                refine' wpAnyH_take (i := 39) (oi := ?oi39) (v := ?v39) ?hi39 (by kernel_rfl) (by kernel_rfl) (by kernel_rfl) ?hq39 ?hy39 hk9 ?hr39
                case hi39 => (simp only [List.getElem?_toArray, List.getElem?_cons_succ, List.getElem?_cons_zero]; rfl)
                case hq39 => exact fun _ _ _ h => h
                case hy39 => (first | (refine Or.inr ⟨?_, by rfl⟩; first | rfl | (go_simp; done)) | (refine Or.inl ⟨by rfl, ?_⟩; intro wz hwz; obtain ⟨z1, z2⟩ := hwz; go_simp; first | done | rfl))
                try simp only [Act.put, List.setIfInBounds_toArray, List.set_cons_zero, List.set_cons_succ]
                refine' wpAnyH_take (i := 40) (oi := ?oi40) (v := ?v40) ?hi40 (by kernel_rfl) (by kernel_rfl) (by kernel_rfl) ?hq40 ?hy40 hk9 ?hr40
                case hi40 => (simp only [List.getElem?_toArray, List.getElem?_cons_succ, List.getElem?_cons_zero]; rfl)
                case hq40 => exact fun _ _ _ h => h
                case hy40 => (first | (refine Or.inr ⟨?_, by rfl⟩; first | rfl | (go_simp; done)) | (refine Or.inl ⟨by rfl, ?_⟩; intro wz hwz; obtain ⟨z1, z2⟩ := hwz; go_simp; first | done | rfl))
                try simp only [Act.put, List.setIfInBounds_toArray, List.set_cons_zero, List.set_cons_succ]
                refine' wpAnyH_take (i := 41) (oi := ?oi41) (v := ?v41) ?hi41 (by kernel_rfl) (by kernel_rfl) (by kernel_rfl) ?hq41 ?hy41 hk9 ?hr41
                case hi41 => (simp only [List.getElem?_toArray, List.getElem?_cons_succ, List.getElem?_cons_zero]; rfl)
                case hq41 => exact fun _ _ _ h => h
                case hy41 => (first | (refine Or.inr ⟨?_, by rfl⟩; first | rfl | (go_simp; done)) | (refine Or.inl ⟨by rfl, ?_⟩; intro wz hwz; obtain ⟨z1, z2⟩ := hwz; go_simp; first | done | rfl))
                try simp only [Act.put, List.setIfInBounds_toArray, List.set_cons_zero, List.set_cons_succ]
                refine' wpAnyH_take (i := 42) (oi := ?oi42) (v := ?v42) ?hi42 (by kernel_rfl) (by kernel_rfl) (by kernel_rfl) ?hq42 ?hy42 hk9 ?hr42
                case hi42 => (simp only [List.getElem?_toArray, List.getElem?_cons_succ, List.getElem?_cons_zero]; rfl)
                case hq42 => exact fun _ _ _ h => h
                case hy42 => (first | (refine Or.inr ⟨?_, by rfl⟩; first | rfl | (go_simp; done)) | (refine Or.inl ⟨by rfl, ?_⟩; intro wz hwz; obtain ⟨z1, z2⟩ := hwz; go_simp; first | done | rfl))
                try simp only [Act.put, List.setIfInBounds_toArray, List.set_cons_zero, List.set_cons_succ]
                refine' wpAnyH_take (i := 43) (oi := ?oi43) (v := ?v43) ?hi43 (by kernel_rfl) (by kernel_rfl) (by kernel_rfl) ?hq43 ?hy43 hk9 ?hr43
                case hi43 => (simp only [List.getElem?_toArray, List.getElem?_cons_succ, List.getElem?_cons_zero]; rfl)
                case hq43 => exact fun _ _ _ h => h
                case hy43 => (first | (refine Or.inr ⟨?_, by rfl⟩; first | rfl | (go_simp; done)) | (refine Or.inl ⟨by rfl, ?_⟩; intro wz hwz; obtain ⟨z1, z2⟩ := hwz; go_simp; first | done | rfl))
                try simp only [Act.put, List.setIfInBounds_toArray, List.set_cons_zero, List.set_cons_succ]
                refine' wpAnyH_take (i := 44) (oi := ?oi44) (v := ?v44) ?hi44 (by kernel_rfl) (by kernel_rfl) (by kernel_rfl) ?hq44 ?hy44 hk9 ?hr44
                case hi44 => (simp only [List.getElem?_toArray, List.getElem?_cons_succ, List.getElem?_cons_zero]; rfl)
                case hq44 => exact fun _ _ _ h => h
                case hy44 => (first | (refine Or.inr ⟨?_, by rfl⟩; first | rfl | (go_simp; done)) | (refine Or.inl ⟨by rfl, ?_⟩; intro wz hwz; obtain ⟨z1, z2⟩ := hwz; go_simp; first | done | rfl))
                try simp only [Act.put, List.setIfInBounds_toArray, List.set_cons_zero, List.set_cons_succ]
                refine' wpAnyH_take (i := 45) (oi := ?oi45) (v := ?v45) ?hi45 (by kernel_rfl) (by kernel_rfl) (by kernel_rfl) ?hq45 ?hy45 hk9 ?hr45
                case hi45 => (simp only [List.getElem?_toArray, List.getElem?_cons_succ, List.getElem?_cons_zero]; rfl)
                case hq45 => exact fun _ _ _ h => h
                case hy45 => (first | (refine Or.inr ⟨?_, by rfl⟩; first | rfl | (go_simp; done)) | (refine Or.inl ⟨by rfl, ?_⟩; intro wz hwz; obtain ⟨z1, z2⟩ := hwz; go_simp; first | done | rfl))
                try simp only [Act.put, List.setIfInBounds_toArray, List.set_cons_zero, List.set_cons_succ]
                refine' wpAnyH_take (i := 46) (oi := ?oi46) (v := ?v46) ?hi46 (by kernel_rfl) (by kernel_rfl) (by kernel_rfl) ?hq46 ?hy46 hk9 ?hr46
                case hi46 => (simp only [List.getElem?_toArray, List.getElem?_cons_succ, List.getElem?_cons_zero]; rfl)
                case hq46 => exact fun _ _ _ h => h
                case hy46 => (first | (refine Or.inr ⟨?_, by rfl⟩; first | rfl | (go_simp; done)) | (refine Or.inl ⟨by rfl, ?_⟩; intro wz hwz; obtain ⟨z1, z2⟩ := hwz; go_simp; first | done | rfl))
                try simp only [Act.put, List.setIfInBounds_toArray, List.set_cons_zero, List.set_cons_succ]
                refine' wpAnyH_take (i := 47) (oi := ?oi47) (v := ?v47) ?hi47 (by kernel_rfl) (by kernel_rfl) (by kernel_rfl) ?hq47 ?hy47 hk9 ?hr47
                case hi47 => (simp only [List.getElem?_toArray, List.getElem?_cons_succ, List.getElem?_cons_zero]; rfl)
                case hq47 => exact fun _ _ _ h => h
                case hy47 => (first | (refine Or.inr ⟨?_, by rfl⟩; first | rfl | (go_simp; done)) | (refine Or.inl ⟨by rfl, ?_⟩; intro wz hwz; obtain ⟨z1, z2⟩ := hwz; go_simp; first | done | rfl))
                try simp only [Act.put, List.setIfInBounds_toArray, List.set_cons_zero, List.set_cons_succ]
                refine' wpAnyH_take (i := 48) (oi := ?oi48) (v := ?v48) ?hi48 (by kernel_rfl) (by kernel_rfl) (by kernel_rfl) ?hq48 ?hy48 hk9 ?hr48
                case hi48 => (simp only [List.getElem?_toArray, List.getElem?_cons_succ, List.getElem?_cons_zero]; rfl)
                case hq48 => exact fun _ _ _ h => h
                case hy48 => (first | (refine Or.inr ⟨?_, by rfl⟩; first | rfl | (go_simp; done)) | (refine Or.inl ⟨by rfl, ?_⟩; intro wz hwz; obtain ⟨z1, z2⟩ := hwz; go_simp; first | done | rfl))
                try simp only [Act.put, List.setIfInBounds_toArray, List.set_cons_zero, List.set_cons_succ]
                refine' wpAnyH_take (i := 49) (oi := ?oi49) (v := ?v49) ?hi49 (by kernel_rfl) (by kernel_rfl) (by kernel_rfl) ?hq49 ?hy49 hk9 ?hr49
                case hi49 => (simp only [List.getElem?_toArray, List.getElem?_cons_succ, List.getElem?_cons_zero]; rfl)
                case hq49 => exact fun _ _ _ h => h
                case hy49 => (first | (refine Or.inr ⟨?_, by rfl⟩; first | rfl | (go_simp; done)) | (refine Or.inl ⟨by rfl, ?_⟩; intro wz hwz; obtain ⟨z1, z2⟩ := hwz; go_simp; first | done | rfl))
                try simp only [Act.put, List.setIfInBounds_toArray, List.set_cons_zero, List.set_cons_succ]
                refine' wpAnyH_take (i := 50) (oi := ?oi50) (v := ?v50) ?hi50 (by kernel_rfl) (by kernel_rfl) (by kernel_rfl) ?hq50 ?hy50 hk9 ?hr50
                case hi50 => (simp only [List.getElem?_toArray, List.getElem?_cons_succ, List.getElem?_cons_zero]; rfl)
                case hq50 => exact fun _ _ _ h => h
                case hy50 => (first | (refine Or.inr ⟨?_, by rfl⟩; first | rfl | (go_simp; done)) | (refine Or.inl ⟨by rfl, ?_⟩; intro wz hwz; obtain ⟨z1, z2⟩ := hwz; go_simp; first | done | rfl))
                try simp only [Act.put, List.setIfInBounds_toArray, List.set_cons_zero, List.set_cons_succ]
                refine' wpAnyH_take (i := 51) (oi := ?oi51) (v := ?v51) ?hi51 (by kernel_rfl) (by kernel_rfl) (by kernel_rfl) ?hq51 ?hy51 hk9 ?hr51
                case hi51 => (simp only [List.getElem?_toArray, List.getElem?_cons_succ, List.getElem?_cons_zero]; rfl)
                case hq51 => exact fun _ _ _ h => h
                case hy51 => (first | (refine Or.inr ⟨?_, by rfl⟩; first | rfl | (go_simp; done)) | (refine Or.inl ⟨by rfl, ?_⟩; intro wz hwz; obtain ⟨z1, z2⟩ := hwz; go_simp; first | done | rfl))
                try simp only [Act.put, List.setIfInBounds_toArray, List.set_cons_zero, List.set_cons_succ]
                refine wpAnyH_done (by kernel_rfl) ?_ _
                go_wp2
                go_ret
                exact ⟨rfl, y3.out⟩
            · rw [if_neg hf] at e4
              obtain ⟨e5, e6⟩ := Prod.mk.inj e4
              obtain ⟨e7, e8⟩ := Prod.mk.inj e6
              subst e8
              clear e4 e5 e6 e7
              by_cases h0 : i = 0
              · subst h0
                obtain ⟨l5, n5, e9⟩ := next_five 0 (by decide)
                rw [HB2e.out, if_neg (by decide)] at e9
                have eb : b2.take 5 = b3 := by rw [HB3e.out, HQ3.out, ← HB2l.out, List.take_eq_take_iff]; omega
                rw [eb, HR7.out] at e9
                obtain ⟨-, e11⟩ := Prod.mk.inj e9
                obtain ⟨-, e12⟩ := Prod.mk.inj e11
                subst e12
                clear e9 e11 eb hf
                go_wp2_with fail
                go_quiet (fail)
                go_wp2
                go_ret
                exact ⟨rfl, pw_below_drewN u3.out _⟩
              · have hf1 : (1 : Int) ≤ i := by omega
                have hf2 : ¬ ((i : Int) ≤ 32) := by omega
                have h10I : (10 : Int) ≤ i := by omega
                have hd2 : decide ((i : Int) ≤ 32) = false := decide_eq_false hf2
                have hd3 : decide ((10 : Int) ≤ i) = true := decide_eq_true h10I
                clear hf
                go_wp2_with fail
                go_quiet (fail)
                go_wp2
                go_ret
                exact ⟨rfl, pw_below_drewN u3.out _⟩
end Go.Proofs.YtmbfapgamcbajaaDoor.X
