/- The walk of DiskSaves. -/
import Derived.Test.YtdjbapbfbgcfjaaDiskL4
import Derived.Test.YtdjbapbfbgcfjaaDiskO
set_option linter.unusedVariables false
set_option linter.unusedSimpArgs false
namespace Go.Proofs.Ytdjbapbfbgcfjaa
open Go.RowKit Go.Maps Go.ChangeMaps Go.MapKept Mv Go.Proofs.YtdjbapbfbgcfjaaW.PrintWords

theorem cell_lit (w : World) (cs : Array Value) (t : TypeId) {v : Value} (k : Nat) (hk : cs[k]? = some v) : (w.alloc (.cells cs t)).cell? ⟨w.heap.size, k, none⟩ = some v := by
  have hh : (w.alloc (.cells cs t)).heap[w.heap.size]? = some (.cells cs t (0, 0)) := heap_alloc_new w _
  unfold World.cell?
  rw [hh]
  exact hk

def SaveRel (w1 : World) (g n : Nat) (want there i : Value) (wr : World) : Prop :=
  ∃ (k : Nat) (F : Lit → Option (List Int × Bool)) (S : Nat → Prop) (o : Option (List Int)), i = .int .i64 k ∧ k ≤ n ∧ k ≤ 12 ∧ want = .string (strOfNums (o.getD [])) ∧ there = .bool o.isSome ∧ F (nm users) = o.map (fun x => (x, true)) ∧ Own w1 wr g (3 * k) F S

theorem C_oldS {w0 w : World} {A : Option Addr} {l : List (List Int)} (h : Bs.C w0 A l.length l) (hb : Below w0.heap.size w0 w) : Bs.C w A l.length l := Kd.C_below h hb
theorem rows_at {w : World} {A : Option Addr} {l : List (List Int)} (h : Bs.C w A l.length l) (k : Nat) (hk : k < l.length) :
    ∃ ad lk Ak ck, A = some ad ∧ w.cell? (ad.add k) = some (.slice Ak lk.length ck) ∧ U8.C w Ak lk.length lk ∧ lk.length ≤ ck := by
  obtain ⟨hl, hm, hr⟩ := h
  obtain ⟨ad, e, hr⟩ := hr (by omega)
  obtain ⟨cs, hlen, ⟨Ak, ck, e1, hck, hrk⟩, hc⟩ := hr k l[k] (List.getElem?_eq_getElem hk)
  subst e1
  have := hc 0 _ rfl
  exact ⟨ad, l[k], Ak, ck, e, by simpa [show Bs.sz = 1 from rfl] using this, hrk, hck⟩

theorem wrap_in {n : Int} (h0 : -128 ≤ n) (h1 : n ≤ 127) : IntKind.i64.wrap n = n := by
  unfold IntKind.wrap
  simp [IntKind.signed, IntKind.bits]
  omega

theorem C_nil (w : World) (A : Option Addr) : U8.C w A 0 [] := ⟨rfl, by decide, fun h => absurd h (by decide)⟩
theorem load_o (g n : Nat) (S : Nat → Prop) (F : Lit → Option (List Int × Bool)) (w : World) (H : DiskAt w g S n F) {o : Option (List Int)} (hF : F (nm users) = o.map (fun x => (x, true))) :
    Calls Try.prog 15 #[.pointer (some ⟨g, 0, none⟩)] w fun e w' => ∃ A c, e = .returned (.tuple #[.slice A (o.getD []).length c, .bool o.isSome]) ∧ U8.C w' A (o.getD []).length (o.getD []) ∧ Below w.heap.size w w' := by
  cases o with
  | none => exact (load_none g n S F w H hF).mono fun e w' ⟨A, c, h, hb⟩ => ⟨A, c, h, C_nil _ _, hb⟩
  | some f => exact (load_some g n S F w H hF).mono fun e w' ⟨A, c, h, _, hr, hb⟩ => ⟨A, c, h, (Kd.R_reads' hr).2.2, hb⟩

set_option maxRecDepth 100000 in
set_option maxHeartbeats 4000000 in
theorem saves_row (A : Option Addr) (c : Nat) (l : List (List Int)) (x1 x2 : List Int) (w : World) (h : Bs.C w A l.length l) (hc : l.length ≤ c) (e1 : x1.length = 12) (e2 : x2.length = 12) (y1 : ∀ x ∈ x1, (Lit.int .i8 x).wf = true) (y2 : ∀ x ∈ x2, (Lit.int .i64 x).wf = true) :
    Calls Try.prog 4 #[.slice A l.length c, .agg (encs (Value.int .i8) x1).toArray, .agg (encs (Value.int .i64) x2).toArray] w fun e w' => e = .returned (.bool true) ∧ Below w.heap.size w w' := by
  have H := hide h
  have Y1 := hide y1
  have Y2 := hide y2
  clear h y1 y2
  go_enter Try.func4, Try.ntmps4
  go_wp2_with fail
  refine (shown_any _).mono ?_
  rintro e w1 ⟨rfl, hb⟩
  have B1 := hide (show Below w.heap.size w w1 from (((Below.refl w.heap.size w).alloc (Nat.le_refl _) _).alloc (by simp) _).trans (hb.mono (by simp; omega)))
  have S1 := hide (show w.heap.size + 2 ≤ w1.heap.size by have := hb.size; simp at this; omega)
  have K1 := hide (show ∀ k, k < 12 → w1.cell? ⟨w.heap.size, k, none⟩ = some (.int .i8 (x1.getD k 0)) from fun k hk => pw_cell_below hb (by
    rw [World.cell?_alloc_lt _ _ _ (by simp)]
    exact cell_lit w _ _ k (by simp [encs, List.getD_eq_getElem?_getD, e1, hk])))
  have K2 := hide (show ∀ k, k < 12 → w1.cell? ⟨w.heap.size + 1, k, none⟩ = some (.int .i64 (x2.getD k 0)) from fun k hk => pw_cell_below hb (by
    have := cell_lit (w.alloc (.cells (encs (Value.int .i8) x1).toArray 48)) (encs (Value.int .i64) x2).toArray 49 (v := .int .i64 (x2.getD k 0)) k (by simp [encs, List.getD_eq_getElem?_getD, e2, hk])
    simpa using this))
  clear hb
  go_wp2_with fail
  refine (new_any _).mono ?_
  rintro e w2 ⟨g, rfl, hd, hb⟩
  have O2 := hide (Own.new hd hb)
  clear hd hb
  go_wp2_with fail
  go_loopw [9, 10, 11] (fun want there i wr => SaveRel w1 g l.length want there i wr) (fun _ _ i _ => l.length - (intOf i).toNat)
  case atStart => exact ⟨0, _, _, none, rfl, by omega, by omega, rfl, rfl, rfl, O2.out⟩
  case round =>
    obtain ⟨k, F, S, o, rfl, hk1, hk2, rfl, rfl, hF, hO⟩ := hrel
    have HF := hide hF
    have HO := hide hO
    have BR := hide (B1.out.trans (hO.bel.mono B1.out.size))
    clear hF hO
    by_cases hlt : k < l.length
    · by_cases hlt2 : k < 12
      · obtain ⟨ad, lk, Ak, ck, rfl, hcell0, hrk0, hck⟩ := rows_at H.out k hlt
        have KR := hide (show ∀ w', Below w.heap.size w w' → w'.cell? (ad.add k) = some (.slice Ak lk.length ck) ∧ U8.C w' Ak lk.length lk from fun w' hb => ⟨pw_cell_below hb hcell0, C_old hrk0 hb⟩)
        clear hcell0 hrk0
        obtain ⟨hcell, hrk⟩ := KR.out wr BR.out
        have HR := hide hrk
        clear hrk
        obtain ⟨st, hst⟩ : ∃ st, st = x1.getD k 0 := ⟨_, rfl⟩
        obtain ⟨kp, hkp⟩ : ∃ kp, kp = x2.getD k 0 := ⟨_, rfl⟩
        have KS := hide (show ∀ w', Below w1.heap.size w1 w' → w'.cell? ⟨w.heap.size, k, none⟩ = some (.int .i8 st) from fun w' hb => by rw [hst]; exact pw_cell_below hb (K1.out k hlt2))
        have KK := hide (show ∀ w', Below w1.heap.size w1 w' → w'.cell? ⟨w.heap.size + 1, k, none⟩ = some (.int .i64 kp) from fun w' hb => by rw [hkp]; exact pw_cell_below hb (K2.out k hlt2))
        have hc1 := KS.out wr HO.out.bel
        have hs : -128 ≤ st ∧ st ≤ 127 := bounds_i8 (Y1.out st (by rw [hst, List.getD_eq_getElem?_getD, List.getElem?_eq_getElem (by omega)]; exact List.getElem_mem _))
        have hp : -9223372036854775808 ≤ kp ∧ kp ≤ 9223372036854775807 := bounds_i64 (Y2.out kp (by rw [hkp, List.getD_eq_getElem?_getD, List.getElem?_eq_getElem (by omega)]; exact List.getElem_mem _))
        obtain ⟨hs0, hs1⟩ := hs
        obtain ⟨hp0, hp1⟩ := hp
        clear hst hkp
        obtain ⟨b, hb⟩ : ∃ b, b = lk.take 50 := ⟨_, rfl⟩
        have lb : b.length ≤ 50 := by rw [hb, List.length_take]; omega
        have HB := hide (show ∀ w', Below w.heap.size w w' → U8.C w' Ak b.length b ∧ Calls Try.prog 20 #[.slice Ak lk.length ck] w' fun e w2 => e = .returned (.slice Ak b.length ck) ∧ w2 = w' from fun w' h => by
          have h2 := (KR.out w' h).2
          have := few_any Ak lk ck w' h2 hck
          rw [← hb] at this
          exact ⟨by rw [hb]; exact C_takeN h2 50, this⟩)
        clear HR hb
        have BRd := hide (BR.out.trans (c := wr.drew) ⟨rfl, rfl, rfl, Nat.le_refl _, fun _ _ => rfl⟩)
        go_wp2
        go_still_tail 10, (by kernel_rfl)
        still_call ((HB.out _ BRd.out).2)
        repeat still_step
        refine wpStill_nil ?_
        rw [show IntKind.i64.wrap st = st from wrap_in hs0 hs1]
        have hlim : 3 * k + 2 < maxLen := by unfold maxLen; omega
        have O1 := hide (HO.out.below (w' := wr.drew) ⟨rfl, rfl, rfl, Nat.le_refl _, fun _ _ => rfl⟩)
        go_wp2_with fail
        refine (save_any g _ _ _ Ak b ck st _ (by omega) O1.out.disk.1 O1.out.disk.2 hlim (HB.out _ BRd.out).1).mono ?_
        rintro e w3 ⟨rfl, hd, hk⟩
        have O3 := hide (O1.out.step hd hk)
        have B3 := hide (B1.out.trans (O3.out.bel.mono B1.out.size))
        clear hd hk O1 HO hc1 hcell
        have hc3 := KS.out w3 O3.out.bel
        have hlim3 : 3 * k + 3 < maxLen := by unfold maxLen; omega
        by_cases hw : 0 ≤ st ∧ st < 3
        · have hst3 : steps st < 3 := by unfold steps; rw [if_pos hw]; omega
          have F3 := hide (show saveF F b (steps st) (nm users) = o.map (fun x => (x, true)) by rw [saveF_users, if_pos hst3]; exact HF.out)
          rw [if_pos hst3]
          generalize saveF F b (steps st) = F3' at O3 F3
          clear hst3
          obtain ⟨hw0, hw1⟩ := hw
          have hc4 := KK.out w3 O3.out.bel
          go_wp2_with fail
          · refine (crash_own _ O3.out kp hlim3 hp0 hp1).mono ?_
            rintro e w4 ⟨rfl, S4, h4, -⟩
            have O4 := hide h4
            have F4 := hide (show crashF kp F3' (nm users) = o.map (fun x => (x, true)) by unfold crashF; rw [F3.out]; cases o <;> rfl)
            clear h4 O3 F3 hc3 hc4
            go_wp2_with fail
            refine (load_o g _ _ _ _ O4.out.disk.1 F4.out).mono ?_
            rintro e w5 ⟨A5, c5, rfl, hv, hb5⟩
            have O5 := hide (O4.out.below hb5)
            have F5 := F4
            have ks := str_C (c := c5) hv
            have kq := strq (c := c5) hv
            clear hb5 hv O4 F4
            first | go_wp2 | skip
            exact ⟨⟨k + 1, _, _, o, by simp, by omega, by omega, rfl, rfl, F5.out, O5.out⟩, by show l.length - ((k : Int) + 1).toNat < l.length - (k : Int).toNat; omega⟩
          · have O4 := O3
            have F4 := F3
            clear O3 F3 hc3 hc4
            refine (load_o g _ _ _ _ O4.out.disk.1 F4.out).mono ?_
            rintro e w5 ⟨A5, c5, rfl, hv, hb5⟩
            have O5 := hide (O4.out.below hb5)
            have F5 := F4
            have ks := str_C (c := c5) hv
            have kq := strq (c := c5) hv
            clear hb5 hv O4 F4
            first | go_wp2 | skip
            exact ⟨⟨k + 1, _, _, o, by simp, by omega, by omega, rfl, rfl, F5.out, O5.out⟩, by show l.length - ((k : Int) + 1).toNat < l.length - (k : Int).toNat; omega⟩
        · have hst3 : ¬ steps st < 3 := by unfold steps; rw [if_neg hw]; omega
          have F3 := hide (show saveF F b (steps st) (nm users) = some (b, true) by rw [saveF_users, if_neg hst3])
          rw [if_neg hst3]
          generalize saveF F b (steps st) = F3' at O3 F3
          clear hst3
          have hw' : st < 0 ∨ 2 < st := by omega
          obtain ⟨hcell3, hrk3⟩ := KR.out w3 B3.out
          clear hrk3 hw
          have hbk := (HB.out w3 B3.out).1
          have kb := str_C (c := ck) hbk
          clear hbk
          have hc4 := KK.out w3 O3.out.bel
          rcases hw' with hw' | hw'
          · go_wp2_with (refine ((HB.out w3 B3.out).2).mono ?_; rintro e w' ⟨rfl, rfl⟩)
            · refine (crash_own _ O3.out kp hlim3 hp0 hp1).mono ?_
              rintro e w4 ⟨rfl, S4, h4, -⟩
              have O4 := hide h4
              have F4 := hide (show crashF kp F3' (nm users) = some (b, true) by unfold crashF; rw [F3.out]; rfl)
              clear h4 O3 F3 hc3 hc4
              go_wp2_with fail
              refine (load_some g _ _ _ _ O4.out.disk.1 F4.out).mono ?_
              rintro e w5 ⟨A5, c5, rfl, -, hr5, hb5⟩
              have hv := (Kd.R_reads' hr5).2.2
              have O5 := hide (O4.out.below hb5)
              have F5 := F4
              have ks := str_C (c := c5) hv
              have kq := strq (c := c5) hv
              clear hb5 hv O4 F4 hr5
              first | go_wp2 | skip
              exact ⟨⟨k + 1, _, _, some b, by simp, by omega, by omega, rfl, rfl, F5.out, O5.out⟩, by show l.length - ((k : Int) + 1).toNat < l.length - (k : Int).toNat; omega⟩
            · have O4 := O3
              have F4 := F3
              clear O3 F3 hc3 hc4
              refine (load_some g _ _ _ _ O4.out.disk.1 F4.out).mono ?_
              rintro e w5 ⟨A5, c5, rfl, -, hr5, hb5⟩
              have hv := (Kd.R_reads' hr5).2.2
              have O5 := hide (O4.out.below hb5)
              have F5 := F4
              have ks := str_C (c := c5) hv
              have kq := strq (c := c5) hv
              clear hb5 hv O4 F4 hr5
              first | go_wp2 | skip
              exact ⟨⟨k + 1, _, _, some b, by simp, by omega, by omega, rfl, rfl, F5.out, O5.out⟩, by show l.length - ((k : Int) + 1).toNat < l.length - (k : Int).toNat; omega⟩
          · go_wp2_with (refine ((HB.out w3 B3.out).2).mono ?_; rintro e w' ⟨rfl, rfl⟩)
            · refine (crash_own _ O3.out kp hlim3 hp0 hp1).mono ?_
              rintro e w4 ⟨rfl, S4, h4, -⟩
              have O4 := hide h4
              have F4 := hide (show crashF kp F3' (nm users) = some (b, true) by unfold crashF; rw [F3.out]; rfl)
              clear h4 O3 F3 hc3 hc4
              go_wp2_with fail
              refine (load_some g _ _ _ _ O4.out.disk.1 F4.out).mono ?_
              rintro e w5 ⟨A5, c5, rfl, -, hr5, hb5⟩
              have hv := (Kd.R_reads' hr5).2.2
              have O5 := hide (O4.out.below hb5)
              have F5 := F4
              have ks := str_C (c := c5) hv
              have kq := strq (c := c5) hv
              clear hb5 hv O4 F4 hr5
              first | go_wp2 | skip
              exact ⟨⟨k + 1, _, _, some b, by simp, by omega, by omega, rfl, rfl, F5.out, O5.out⟩, by show l.length - ((k : Int) + 1).toNat < l.length - (k : Int).toNat; omega⟩
            · have O4 := O3
              have F4 := F3
              clear O3 F3 hc3 hc4
              refine (load_some g _ _ _ _ O4.out.disk.1 F4.out).mono ?_
              rintro e w5 ⟨A5, c5, rfl, -, hr5, hb5⟩
              have hv := (Kd.R_reads' hr5).2.2
              have O5 := hide (O4.out.below hb5)
              have F5 := F4
              have ks := str_C (c := c5) hv
              have kq := strq (c := c5) hv
              clear hb5 hv O4 F4 hr5
              first | go_wp2 | skip
              exact ⟨⟨k + 1, _, _, some b, by simp, by omega, by omega, rfl, rfl, F5.out, O5.out⟩, by show l.length - ((k : Int) + 1).toNat < l.length - (k : Int).toNat; omega⟩
      · go_wp2
        go_ret
        exact ⟨rfl, BR.out⟩
    · go_wp2
      go_ret
      exact ⟨rfl, BR.out⟩
end Go.Proofs.Ytdjbapbfbgcfjaa
