/- The walk of DiskSafe. -/
import Derived.Test.YtdjbapbfbgcfjaaDiskL3
set_option linter.unusedVariables false
set_option linter.unusedSimpArgs false
namespace Go.Proofs.Ytdjbapbfbgcfjaa
open Go.RowKit Go.Maps Go.ChangeMaps Go.MapKept Mv Go.Proofs.YtdjbapbfbgcfjaaW.PrintWords

theorem Own.far {w0 w w' : World} {g n : Nat} {F : Lit → Option (List Int × Bool)} {S T : Nat → Prop} (h : Own w0 w g n F S) (hk : Kp T w w') (hd : ∀ k, S k → ¬ T k) (hT : ∀ k, T k → w0.heap.size ≤ k) : Own w0 w' g n F S :=
  ⟨⟨h.disk.1.kp hk fun k h1 h2 => absurd h2 (hd k h1), fun k hk' => by have := h.disk.2 k hk'; have := hk.size; omega⟩, h.low, h.bel.trans (hk.belowB h.bel.size hT)⟩

theorem R_kp {w w' : World} {e base : Nat} {ok S : Nat → Prop} {v : Value} {l : List Int} (h : U8.R e w base ok v l) (hk : Kp S w w') (hd : ∀ k, ok k → ¬ S k) : U8.R e w' base ok v l := Kd.R_step h fun k ho hlt => hk.block k hlt (hd k ho)

theorem u8_at {w : World} {e base g n c : Nat} {ok : Nat → Prop} {xs : List Int} (h : U8.R e w base ok (.slice (some ⟨g, 0, none⟩) n c) xs) (k : Nat) (hk : k < n) :
    w.cell? ⟨g, k, none⟩ = some (.int .u8 (rdOf 0 xs k)) ∧ w.frozen? ⟨g, k, none⟩ = false := by
  obtain ⟨rfl, _⟩ := Kd.R_reads' h
  have := own_at_of (d := (0 : Int)) (Kd.own_of_R (show (Kd.scalar (Value.int .u8) (fun _ => rfl)).R e w base ok (.slice (some ⟨g, 0, none⟩) xs.length c) xs from h)) (k : Int) (by omega) (by omega)
  exact this
theorem u8_put {w : World} {e base g n c : Nat} {ok : Nat → Prop} {xs : List Int} (h : U8.R e w base ok (.slice (some ⟨g, 0, none⟩) n c) xs) (k : Nat) (x : Int) :
    U8.R e (w.setCell ⟨g, k, none⟩ (.int .u8 x)) base ok (.slice (some ⟨g, 0, none⟩) n c) (xs.set k x) :=
  Kd.R_putn (show (Kd.scalar (Value.int .u8) (fun _ => rfl)).R e w base ok (.slice (some ⟨g, 0, none⟩) n c) xs from h) (k : Int) x

set_option maxRecDepth 100000 in
set_option maxHeartbeats 4000000 in
theorem safe_row (A1 A2 : Option Addr) (l1 l2 : List Int) (c1 c2 : Nat) (keep : Int) (w : World) (h1 : U8.C w A1 l1.length l1) (h2 : U8.C w A2 l2.length l2) (b1 : l1.length ≤ c1) (b2 : l2.length ≤ c2)
    (wf : ∀ x ∈ l1, (Lit.int .u8 x).wf = true) (p0 : -9223372036854775808 ≤ keep) (p1 : keep ≤ 9223372036854775807) :
    Calls Try.prog 5 #[.slice A1 l1.length c1, .slice A2 l2.length c2, .int .i64 keep] w fun e w' => e = .returned (.bool true) ∧ Below w.heap.size w w' := by
  obtain ⟨a, ha⟩ : ∃ a, a = l1.take 50 := ⟨_, rfl⟩
  obtain ⟨b, hb⟩ : ∃ b, b = l2.take 50 := ⟨_, rfl⟩
  have la : a.length ≤ 50 := by rw [ha, List.length_take]; omega
  have lb : b.length ≤ 50 := by rw [hb, List.length_take]; omega
  have ca : a.length ≤ c1 := by rw [ha, List.length_take]; omega
  have cb : b.length ≤ c2 := by rw [hb, List.length_take]; omega
  have Ha := hide (show U8.C w A1 a.length a by rw [ha]; exact C_takeN h1 50)
  have Hb := hide (show U8.C w A2 b.length b by rw [hb]; exact C_takeN h2 50)
  have H1 := hide h1
  have H2 := hide h2
  have EA := hide ha
  have EB := hide hb
  clear h1 h2 ha hb
  go_enter Try.func5, Try.ntmps5
  go_wp2_with fail
  refine (shown_any _).mono ?_
  rintro e w1 ⟨rfl, hb⟩
  have B1 := hide hb
  clear hb
  go_wp2_with fail
  refine (new_any _).mono ?_
  rintro e w2 ⟨g, rfl, hd, hb⟩
  have O2 := hide (Own.new hd hb)
  have B2 := hide (B1.out.trans (hb.mono B1.out.size))
  clear hd hb
  go_wp2_with fail
  refine (few_any A1 l1 c1 _ (C_old H1.out B2.out) b1).mono ?_
  rintro e w' ⟨rfl, rfl⟩
  rw [← EA.out]
  go_wp2_with fail
  refine (few_any A2 l2 c2 _ (C_old H2.out B2.out) b2).mono ?_
  rintro e w' ⟨rfl, rfl⟩
  rw [← EB.out]
  have HA := hide (Kd.C_below (C_old Ha.out B2.out) ((Below.refl _ _).alloc (Nat.le_refl _) (.cells #[] 5)))
  have HO := hide (own_empty w' 5 .u8 (fun k => w'.heap.size ≤ k) (Nat.le_refl _))
  go_wp2_with (first | (at_builtin; refine Kd.R_append_rows U8 (Rr := U8.K (w'.alloc (.cells #[] 5))) (w0 := w') w'.heap.size rfl _ _ 30 5 (.int .u8 0) 1 rfl Try.underlying30 info5 rfl (by decide) (by decide) _ [] a A1 a.length c1 (fun k => w'.heap.size ≤ k) (fun _ => False) rfl rfl HO.out HA.out (fun _ _ h => h) (fun _ h => h.elim) ?_ ((Below.refl _ _).alloc (Nat.le_refl _) _) (by simp) (by simp; omega) ?_))
  · intro k hk
    simp at hk
    omega
  intro v1 w3 hown hb hg hat
  have hown := Kd.R_mono (Kd.R_bound hown) (ok' := fun k => w'.heap.size ≤ k ∧ k < w3.heap.size) (fun k h => ⟨h.1, h.2.2.1⟩)
  obtain ⟨A, c, rfl, hc, hr⟩ := Kd.R_reads hown
  have O3 := hide (O2.out.below hb)
  have R3 := hide hown
  have C3 := hide hr
  have L3 := hide hb.size
  clear hown hb hg hat hr HA HO
  go_wp2_with fail
  refine (write_any _ _ _ _ na A a c _ O3.out.disk.1 (by decide) C3.out (by omega) (by decide)).mono ?_
  rintro e w4 ⟨rfl, h4, hk⟩
  have O4 := hide (O3.out.step h4 hk)
  have R4 := hide (R_kp R3.out hk fun k h1 h2 => by omega)
  have D4 := hide (show ∀ k, more (fun k => w1.heap.size ≤ k ∧ k < w'.heap.size) w3 w4 k → ¬ (w'.heap.size ≤ k ∧ k < w3.heap.size) from fun k h1 h2 => by rcases h1 with h1 | h1 <;> omega)
  have L4 := hide hk.size
  clear h4 hk O3 R3 C3
  generalize more (fun k => w1.heap.size ≤ k ∧ k < w'.heap.size) w3 w4 = S4 at O4 D4
  go_wp2_with fail
  go_loopw [11] (fun i wr => ∃ k : Nat, i = .int .i64 k ∧ k ≤ a.length ∧ ∃ xs, xs.length = a.length ∧ U8.R 5 wr w'.heap.size (fun k => w'.heap.size ≤ k ∧ k < w3.heap.size) (.slice A a.length c) xs ∧ Kp (fun k => w'.heap.size ≤ k ∧ k < w3.heap.size) w4 wr) (fun i _ => a.length - (intOf i).toNat)
  case atStart => exact ⟨0, rfl, by omega, a, rfl, R4.out, Kp.refl _ _⟩
  case round =>
    obtain ⟨k, rfl, hk, xs, hl, hR, hK⟩ := hrel
    have HR := hide hR
    have HK := hide hK
    clear hR hK
    by_cases hlt : k < a.length
    · obtain ⟨og, cap, hv, hb, hlt2, cells, hcells⟩ := Kd.R_form HR.out (by omega)
      injection hv with e1 e2 e3
      subst e1 e3
      clear e2
      obtain ⟨hc1, hc2⟩ := u8_at HR.out k hlt
      have hok := HR.out.1 og rfl
      go_wp2
      go_roundw
      case rel => exact ⟨k + 1, by simp, by omega, xs.set k _, by simp [hl], u8_put HR.out k _, HK.out.setCell (.inl hok) _⟩
      case measure =>
        show a.length - ((k : Int) + 1).toNat < a.length - (k : Int).toNat
        omega
    · have O5 := hide (O4.out.far HK.out D4.out fun k h => by have := O2.out.bel.size; omega)
      have f5 := hide (show updF (fun _ => none) (nm na) (some (a, false)) (nm na) = some (a, false) from updF_same _ _ _)
      have fc5 := hide (show updF (fun _ => none) (nm na) (some (a, false)) (nm nc) = none by rw [updF_other _ _ (nm_ne (by decide))])
      clear O4 HR HK R4
      generalize updF (fun _ => none) (nm na) (some (a, false)) = F5 at O5 f5 fc5
      go_wp2_with fail
      refine (sync_own _ O5.out na (by decide) (by decide) f5.out).mono ?_
      rintro e w6 ⟨rfl, S6, h6, -⟩
      have O6 := hide h6
      have fa6 := hide (show updF F5 (nm na) (some (a, true)) (nm na) = some (a, true) by rw [updF_same])
      have fc6 := hide (show updF F5 (nm na) (some (a, true)) (nm nc) = F5 (nm nc) by rw [updF_other _ _ (nm_ne (by decide))])
      have B6 := hide (B1.out.trans (h6.bel.mono B1.out.size))
      clear h6 O5
      generalize updF F5 (nm na) (some (a, true)) = F6 at O6 fa6 fc6
      go_wp2_with fail
      refine (write_own _ O6.out nb A2 b c2 (by decide) (C_old Hb.out B6.out) (by omega) (by decide)).mono ?_
      rintro e w7 ⟨rfl, S7, h7, -⟩
      have O7 := hide h7
      have fa7 := hide (show updF F6 (nm nb) (some (b, false)) (nm na) = some (a, true) by rw [updF_other _ _ ab]; exact fa6.out)
      have fb7 := hide (show updF F6 (nm nb) (some (b, false)) (nm nb) = some (b, false) by rw [updF_same])
      have fc7 := hide (show updF F6 (nm nb) (some (b, false)) (nm nc) = none by rw [updF_other _ _ (nm_ne (by decide)), fc6.out]; exact fc5.out)
      clear h7 O6 fa6 fc6
      generalize updF F6 (nm nb) (some (b, false)) = F7 at O7 fa7 fb7 fc7
      go_wp2_with fail
      refine (sync_own_no _ O7.out nc (by decide) (by decide) fc7.out).mono ?_
      rintro e w8 ⟨rfl, S8, h8, -⟩
      have O8 := hide h8
      clear h8 O7
      go_wp2_with fail
      refine (crash_own _ O8.out keep (by decide) (by omega) (by omega)).mono ?_
      rintro e w9 ⟨rfl, S9, h9, -⟩
      have O9 := hide h9
      have fa9 := hide (show crashF keep F7 (nm na) = some (a, true) from crashF_some fa7.out)
      have fb9 := hide (show crashF keep F7 (nm nb) = some (cutB keep b, true) from crashF_some fb7.out)
      clear h9 O8
      generalize crashF keep F7 = F9 at O9 fa9 fb9
      go_wp2_with fail
      refine (read_some g _ _ _ na _ O9.out.disk.1 (by decide) fa9.out).mono ?_
      rintro e w10 ⟨A10, c10, rfl, hc10, hv, hb⟩
      have O10 := hide (O9.out.below hb)
      have X10 := hide hv
      have L9 := hide O9.out.disk.2
      have M9 := hide O9.out.bel.size
      have L10 := hide hb.size
      clear hb hv O9
      go_wp2_with fail
      refine (read_some g _ _ _ nb _ O10.out.disk.1 (by decide) fb9.out).mono ?_
      rintro e w11 ⟨A11, c11, rfl, hc11, hv, hb⟩
      have O11 := hide (O10.out.below hb)
      have X11 := hide hv
      have B11 := hide (B1.out.trans (O11.out.bel.mono B1.out.size))
      have kx := strq (c := c10) (C_below' (w0 := w11) (Kd.R_reads' X10.out).2.2 hb)
      have ky := strq (c := c11) (Kd.R_reads' hv).2.2
      have ka := strq (c := c1) (C_old Ha.out B11.out)
      have kb : ∀ n, (convert 30 9 (.slice A2 (cutB keep b).length c2)).run Try.prog (w11.drewN n) = .ok (.string (strOfNums (cutB keep b))) (w11.drewN n) := strq (c := c2) (C_takeN (C_old Hb.out B11.out) _)
      have lc : (cutB keep b).length ≤ b.length := by unfold cutB; rw [List.length_take]; omega
      have lc2 : (cutB keep b).length ≤ c2 := by omega
      have lc3 : ((cutB keep b).length : Int) ≤ (c2 : Int) := by omega
      have lc4 : ((cutB keep b).length : Int) ≤ (b.length : Int) := by omega
      have HB11 := hide hb
      clear hv hb
      go_wp2_with fail
      go_quiet (fail)
      go_wp2_with fail
      have R11 := hide (Kd.R_drewN (Kd.R_step (Kd.R_mono (Kd.R_bound X10.out) (ok' := fun k => w9.heap.size ≤ k ∧ k < w10.heap.size) (fun k h => ⟨h.1, h.2.2.1⟩)) fun k _ hlt => HB11.out.block k hlt) nq)
      have O12 := hide (O11.out.below (w' := w11.drewN nq) ⟨rfl, rfl, rfl, Nat.le_refl _, fun _ _ => rfl⟩)
      have X12 := hide (Kd.R_drewN X11.out nq)
      have C0 := hide (Kd.C_drewN (C_old Ha.out B11.out) nq)
      have E12 := hide (show w11.heap.size ≤ (w11.drewN nq).heap.size from Nat.le_refl _)
      clear kx ky ka kb X10 X11 O11 O10
      generalize w11.drewN nq = w12 at O12 R11 X12 C0 E12
      go_loopw [19] (fun i wr => ∃ k : Nat, i = .int .i64 k ∧ k ≤ a.length ∧ ∃ xs, xs.length = a.length ∧ U8.R 5 wr w9.heap.size (fun k => w9.heap.size ≤ k ∧ k < w10.heap.size) (.slice A10 a.length c10) xs ∧ Kp (fun k => w9.heap.size ≤ k ∧ k < w10.heap.size) w12 wr) (fun i _ => a.length - (intOf i).toNat)
      case atStart => exact ⟨0, rfl, by omega, a, rfl, R11.out, Kp.refl _ _⟩
      case round =>
        obtain ⟨k, rfl, hk, xs, hl, hR, hK⟩ := hrel
        have HR := hide hR
        have HK := hide hK
        clear hR hK
        by_cases hlt : k < a.length
        · obtain ⟨og, cap, hv, hb, hlt2, cells, hcells⟩ := Kd.R_form HR.out (by omega)
          injection hv with e1 e2 e3
          subst e1 e3
          clear e2
          obtain ⟨hc1, hc2⟩ := u8_at HR.out k hlt
          have hok := HR.out.1 og rfl
          go_wp2
          go_roundw
          case rel => exact ⟨k + 1, by simp, by omega, xs.set k _, by simp [hl], u8_put HR.out k _, HK.out.setCell (.inl hok) _⟩
          case measure =>
            show a.length - ((k : Int) + 1).toNat < a.length - (k : Int).toNat
            omega
        · have O13 := hide (O12.out.far HK.out (fun k h1 h2 => by have := L9.out k h1; omega) fun k h => by have := M9.out; omega)
          go_wp2_with fail
          have C11 := hide (show U8.C wr A11 (cutB keep b).length (cutB keep b) from C_kp (Kd.R_reads' X12.out).2.2 HK.out fun ad e h => by have h1 : w10.heap.size ≤ ad.block := X12.out.1 ad.block (by rw [e]; rfl); omega)
          obtain ⟨kp, hkp⟩ : ∃ kp, kp = wrap64 (keep + 1) := ⟨_, rfl⟩
          rw [← hkp]
          have k0 : -9223372036854775808 ≤ kp := by rw [hkp]; unfold wrap64; omega
          have k1 : kp ≤ 9223372036854775807 := by rw [hkp]; unfold wrap64; omega
          clear hkp
          refine (crash_own _ O13.out kp (by decide) (by omega) (by omega)).mono ?_
          rintro e w14 ⟨rfl, S14, h14, hk14⟩
          have O14 := hide h14
          have fa14 := hide (show crashF kp F9 (nm na) = some (a, true) from crashF_some fa9.out)
          have fb14 := hide (show crashF kp F9 (nm nb) = some (cutB keep b, true) from crashF_some fb9.out)
          have C14 := hide (C_kp C11.out hk14 fun ad e h => by have h1 : w10.heap.size ≤ ad.block := X12.out.1 ad.block (by rw [e]; rfl); have := L9.out _ h; have := L10.out; omega)
          have B14 := hide (B1.out.trans (h14.bel.mono B1.out.size))
          clear h14 O13 hk14 C11
          generalize crashF kp F9 = F14 at O14 fa14 fb14
          go_wp2_with fail
          refine (read_some g _ _ _ nb _ O14.out.disk.1 (by decide) fb14.out).mono ?_
          rintro e w15 ⟨A15, c15, rfl, hc15, hv15, hb15⟩
          have O15 := hide (O14.out.below hb15)
          have C15 := hide (Kd.R_reads' hv15).2.2
          have C14' := hide (Kd.C_below C14.out hb15)
          clear hb15 hv15 O14 C14
          go_wp2_with fail
          refine (read_some g _ _ _ na _ O15.out.disk.1 (by decide) fa14.out).mono ?_
          rintro e w16 ⟨A16, c16, rfl, hc16, hv16, hb16⟩
          have O16 := hide (O15.out.below hb16)
          have B16 := hide (B1.out.trans (O16.out.bel.mono B1.out.size))
          have k16 := str_C (c := c16) (Kd.R_reads' hv16).2.2
          have k15 := str_C (c := c15) (Kd.C_below C15.out hb16)
          have k14 := str_C (c := c11) (Kd.C_below C14'.out hb16)
          have ka := str_C (c := c1) (C_old Ha.out B16.out)
          clear hb16 hv16 O15 C15 C14'
          go_wp2
          go_ret
          exact ⟨rfl, B16.out⟩
end Go.Proofs.Ytdjbapbfbgcfjaa
