/- The walk of DiskNames. -/
import Derived.Test.YtdjbapbfbgcfjaaDiskL2
import Derived.StillTailTactics
set_option linter.unusedVariables false
set_option linter.unusedSimpArgs false
namespace Go.Proofs.Ytdjbapbfbgcfjaa
open Go.RowKit Go.Maps Go.ChangeMaps Go.MapKept Mv Go.Proofs.YtdjbapbfbgcfjaaW.PrintWords

def na : ByteArray := ⟨#[97]⟩
def nb : ByteArray := ⟨#[98]⟩
def nc : ByteArray := ⟨#[99]⟩
theorem ab : nm na ≠ nm nb := nm_ne (by decide)
theorem ba : nm nb ≠ nm na := nm_ne (by decide)

theorem write_own (w0 : World) {g n : Nat} {S : Nat → Prop} {F : Lit → Option (List Int × Bool)} {w : World} (O : Own w0 w g n F S) (s : ByteArray) (A : Option Addr) (l : List Int) (c : Nat) (hs : s.size ≤ maxLen) (h : U8.C w A l.length l) (hl : l.length ≤ 65536) (hn : n < maxLen) :
    Calls Try.prog 22 #[.pointer (some ⟨g, 0, none⟩), .string s, .slice A l.length c] w fun e w' => e = .returned (.int .i64 0) ∧ ∃ S', Own w0 w' g (n + 1) (updF F (nm s) (some (l, false))) S' ∧ Kp S w w' :=
  (write_any g n S F s A l c w O.disk.1 hs h hl hn).mono fun e w' ⟨h1, h2, h3⟩ => ⟨h1, _, O.step h2 h3, h3⟩
theorem sync_own (w0 : World) {g n : Nat} {S : Nat → Prop} {F : Lit → Option (List Int × Bool)} {w : World} (O : Own w0 w g n F S) (s : ByteArray) (hs : s.size ≤ maxLen) (hn : n < maxLen) {f : List Int × Bool} (hf : F (nm s) = some f) :
    Calls Try.prog 11 #[.pointer (some ⟨g, 0, none⟩), .string s] w fun e w' => e = .returned (.int .i64 0) ∧ ∃ S', Own w0 w' g (n + 1) (updF F (nm s) (some (f.1, true))) S' ∧ Kp S w w' :=
  (sync_any g n S F s w O.disk.1 hs hn).mono fun e w' ⟨h1, h2, h3⟩ => ⟨by rw [h1, hf]; rfl, _, by have := O.step h2 h3; unfold syncF at this; rw [hf] at this; exact this, h3⟩
theorem sync_own_no (w0 : World) {g n : Nat} {S : Nat → Prop} {F : Lit → Option (List Int × Bool)} {w : World} (O : Own w0 w g n F S) (s : ByteArray) (hs : s.size ≤ maxLen) (hn : n < maxLen) (hf : F (nm s) = none) :
    Calls Try.prog 11 #[.pointer (some ⟨g, 0, none⟩), .string s] w fun e w' => e = .returned (.int .i64 2) ∧ ∃ S', Own w0 w' g (n + 1) F S' ∧ Kp S w w' :=
  (sync_any g n S F s w O.disk.1 hs hn).mono fun e w' ⟨h1, h2, h3⟩ => ⟨by rw [h1, hf]; rfl, _, by have := O.step h2 h3; unfold syncF at this; rw [hf, Option.map_none, updF_self hf] at this; exact this, h3⟩
theorem ren_own (w0 : World) {g n : Nat} {S : Nat → Prop} {F : Lit → Option (List Int × Bool)} {w : World} (O : Own w0 w g n F S) (s t : ByteArray) (hs : s.size ≤ maxLen) (ht : t.size ≤ maxLen) (hn : n < maxLen) {f : List Int × Bool} (hf : F (nm s) = some f) :
    Calls Try.prog 13 #[.pointer (some ⟨g, 0, none⟩), .string s, .string t] w fun e w' => e = .returned (.int .i64 0) ∧ ∃ S', Own w0 w' g (n + 1) (updF (updF F (nm s) none) (nm t) (some f)) S' ∧ Kp S w w' :=
  (rename_any g n S F s t w O.disk.1 hs ht hn).mono fun e w' ⟨h1, h2, h3⟩ => ⟨by rw [h1, hf]; rfl, _, by have := O.step h2 h3; unfold renF at this; rw [hf, if_pos (by simp)] at this; exact this, h3⟩
theorem ren_own_no (w0 : World) {g n : Nat} {S : Nat → Prop} {F : Lit → Option (List Int × Bool)} {w : World} (O : Own w0 w g n F S) (s t : ByteArray) (hs : s.size ≤ maxLen) (ht : t.size ≤ maxLen) (hn : n < maxLen) (hf : F (nm s) = none) :
    Calls Try.prog 13 #[.pointer (some ⟨g, 0, none⟩), .string s, .string t] w fun e w' => e = .returned (.int .i64 2) ∧ ∃ S', Own w0 w' g (n + 1) F S' ∧ Kp S w w' :=
  (rename_any g n S F s t w O.disk.1 hs ht hn).mono fun e w' ⟨h1, h2, h3⟩ => ⟨by rw [h1, hf]; rfl, _, by have := O.step h2 h3; unfold renF at this; rw [hf, if_neg (by simp)] at this; exact this, h3⟩
theorem crash_own (w0 : World) {g n : Nat} {S : Nat → Prop} {F : Lit → Option (List Int × Bool)} {w : World} (O : Own w0 w g n F S) (keep : Int) (hn : n < maxLen) (hk0 : -9223372036854775808 ≤ keep) (hk1 : keep ≤ 9223372036854775807) :
    Calls Try.prog 17 #[.pointer (some ⟨g, 0, none⟩), .int .i64 keep] w fun e w' => e = .returned (.tuple #[]) ∧ ∃ S', Own w0 w' g n (crashF keep F) S' ∧ Kp S w w' :=
  (crash_any g n S F keep w O.disk.1 hn hk0 hk1).mono fun e w' ⟨h1, h2, h3⟩ => ⟨h1, _, O.step h2 h3, h3⟩


set_option maxRecDepth 100000 in
set_option maxHeartbeats 4000000 in
theorem names_true (A1 A2 : Option Addr) (l1 l2 : List Int) (c1 c2 : Nat) (keep : Int) (w : World) (h1 : U8.C w A1 l1.length l1) (h2 : U8.C w A2 l2.length l2) (b1 : l1.length ≤ c1) (b2 : l2.length ≤ c2)
    (p0 : 0 ≤ keep) (p1 : keep ≤ 255) :
    Calls Try.prog 6 #[.agg #[.slice A1 l1.length c1, .slice A2 l2.length c2], .bool true, .int .u8 keep] w fun e w' => e = .returned (.bool true) ∧ Below w.heap.size w w' := by
  obtain ⟨a, ha⟩ : ∃ a, a = l1.take 50 := ⟨_, rfl⟩
  obtain ⟨b, hb⟩ : ∃ b, b = l2.take 50 := ⟨_, rfl⟩
  have la : a.length ≤ 50 := by rw [ha, List.length_take]; omega
  have lb : b.length ≤ 50 := by rw [hb, List.length_take]; omega
  have ca : a.length ≤ c1 := by rw [ha, List.length_take]; omega
  have Ha := hide (show U8.C w A1 a.length a by rw [ha]; exact C_takeN h1 50)
  have Hb := hide (show U8.C w A2 b.length b by rw [hb]; exact C_takeN h2 50)
  have H1 := hide h1
  have H2 := hide h2
  have EA := hide ha
  have EB := hide hb
  clear h1 h2 ha hb
  go_enter Try.func6, Try.ntmps6
  go_wp2_with fail
  refine (shown_any _).mono ?_
  rintro e w1 ⟨rfl, hb⟩
  have B1 := hide (show Below w.heap.size w w1 from ((Below.refl w.heap.size w).alloc (Nat.le_refl _) _).trans (hb.mono (by simp)))
  have e0 : w1.cell? ⟨w.heap.size, 0, none⟩ = some (.slice A1 l1.length c1) := pw_cell_below hb (by simp)
  have e1 : w1.cell? ⟨w.heap.size, 1, none⟩ = some (.slice A2 l2.length c2) := pw_cell_below hb (by simp)
  clear hb
  go_wp2_with fail
  refine (new_any _).mono ?_
  rintro e w2 ⟨g, rfl, hd, hb⟩
  have O2 := hide (Own.new hd hb)
  have B2 := hide (B1.out.trans (hb.mono B1.out.size))
  clear hd hb e0 e1
  go_wp2_with fail
  refine (few_any A1 l1 c1 _ (C_old H1.out B2.out) b1).mono ?_
  rintro e w' ⟨rfl, rfl⟩
  rw [← EA.out]
  go_wp2_with fail
  refine (write_own _ O2.out na A1 a c1 (by decide) (C_old Ha.out B2.out) (by omega) (by decide)).mono ?_
  rintro e w3 ⟨rfl, S3, h3, -⟩
  have O3 := hide h3
  have B3 := hide (B1.out.trans (h3.bel.mono B1.out.size))
  clear h3 O2
  go_wp2_with fail
  refine (few_any A2 l2 c2 _ (C_old H2.out B3.out) b2).mono ?_
  rintro e w' ⟨rfl, rfl⟩
  rw [← EB.out]
  go_wp2_with fail
  refine (write_own _ O3.out nb A2 b c2 (by decide) (C_old Hb.out B3.out) (by omega) (by decide)).mono ?_
  rintro e w4 ⟨rfl, S4, h4, -⟩
  have O4 := hide h4
  have fa4 := hide (show updF (updF (fun _ => none) (nm na) (some (a, false))) (nm nb) (some (b, false)) (nm na) = some (a, false) by rw [updF_other _ _ ab, updF_same])
  have fb4 := hide (show updF (updF (fun _ => none) (nm na) (some (a, false))) (nm nb) (some (b, false)) (nm nb) = some (b, false) by rw [updF_same])
  clear h4 O3
  generalize updF (updF (fun _ => none) (nm na) (some (a, false))) (nm nb) (some (b, false)) = F4 at O4 fa4 fb4
  go_wp2_with fail
  refine (sync_own _ O4.out nb (by decide) (by decide) fb4.out).mono ?_
  rintro e w5 ⟨rfl, S5, h5, -⟩
  have O5 := hide h5
  have fa5 := hide (show updF F4 (nm nb) (some (b, true)) (nm na) = some (a, false) by rw [updF_other _ _ ab]; exact fa4.out)
  clear h5 O4
  generalize updF F4 (nm nb) (some (b, true)) = F5 at O5 fa5
  go_wp2_with fail
  refine (sync_own _ O5.out na (by decide) (by decide) fa5.out).mono ?_
  rintro e w6 ⟨rfl, S6, h6, -⟩
  have O6 := hide h6
  have fa6 := hide (show updF F5 (nm na) (some (a, true)) (nm na) = some (a, true) by rw [updF_same])
  clear h6 O5
  generalize updF F5 (nm na) (some (a, true)) = F6 at O6 fa6
  go_wp2_with fail
  refine (ren_own _ O6.out na nb (by decide) (by decide) (by decide) fa6.out).mono ?_
  rintro e w7 ⟨rfl, S7, h7, -⟩
  have O7 := hide h7
  have fa7 := hide (show updF (updF F6 (nm na) none) (nm nb) (some (a, true)) (nm na) = none by rw [updF_other _ _ ab, updF_same])
  have fb7 := hide (show updF (updF F6 (nm na) none) (nm nb) (some (a, true)) (nm nb) = some (a, true) by rw [updF_same])
  clear h7 O6
  generalize updF (updF F6 (nm na) none) (nm nb) (some (a, true)) = F7 at O7 fa7 fb7
  go_wp2_with fail
  refine (ren_own_no _ O7.out na nc (by decide) (by decide) (by decide) fa7.out).mono ?_
  rintro e w8 ⟨rfl, S8, h8, -⟩
  have O8 := hide h8
  clear h8 O7
  go_wp2_with fail
  refine (read_none g _ _ _ na _ O8.out.disk.1 (by decide) fa7.out).mono ?_
  rintro e w9 ⟨A9, c9, rfl, hb⟩
  have O9 := hide (O8.out.below hb)
  clear hb O8
  go_wp2_with fail
  refine (read_some g _ _ _ nb _ O9.out.disk.1 (by decide) fb7.out).mono ?_
  rintro e w10 ⟨A10, c10, rfl, hc10, hv, hb⟩
  have O10 := hide (O9.out.below hb)
  have L9 := hide O9.out.disk.2
  have X10 := hide hv
  clear hb O9 hv
  go_wp2_with fail
  refine (crash_own _ O10.out keep (by decide) (by omega) (by omega)).mono ?_
  rintro e w11 ⟨rfl, S11, h11, hk⟩
  have O11 := hide h11
  have X11 := hide (C_rkp X10.out hk L9.out)
  have fb11 := hide (show crashF keep F7 (nm nb) = some (a, true) from crashF_some fb7.out)
  clear h11 O10 X10 L9 hk
  generalize crashF keep F7 = F11 at O11 fb11
  go_wp2_with fail
  refine (read_some g _ _ _ nb _ O11.out.disk.1 (by decide) fb11.out).mono ?_
  rintro e w12 ⟨A12, c12, rfl, hc12, hv, hb⟩
  have O12 := hide (O11.out.below hb)
  have B12 := hide (B1.out.trans (O12.out.bel.mono B1.out.size))
  have k10 := strq (c := c10) (C_below' (w0 := w12) X11.out hb)
  have k12 := strq (c := c12) (Kd.R_reads' hv).2.2
  have ka := strq (c := c1) (C_old Ha.out B12.out)
  clear hb hv O11 X11
  go_wp2_with fail
  have k10' : (convert 30 9 (.slice A10 a.length c10)).run Try.prog w12.drew = .ok (.string (strOfNums a)) w12.drew := k10 1
  have k12' : (convert 30 9 (.slice A12 (a).length c12)).run Try.prog w12.drew = .ok (.string (strOfNums (a))) w12.drew := k12 1
  have ka' : (convert 30 9 (.slice A1 a.length c1)).run Try.prog w12.drew = .ok (.string (strOfNums a)) w12.drew := ka 1
  go_still_tail 34, (by kernel_rfl)
  have O13 := hide (O12.out.below (w' := w12.drew) ⟨rfl, rfl, rfl, Nat.le_refl _, fun _ _ => rfl⟩)
  clear k10 k12 ka
  go_wp2_with fail
  refine (ren_own _ O13.out nb nb (by decide) (by decide) (by decide) fb11.out).mono ?_
  rintro e w14 ⟨rfl, S14, h14, -⟩
  have B14 := hide (B1.out.trans (h14.bel.mono B1.out.size))
  clear h14
  go_wp2
  go_ret
  exact ⟨rfl, B14.out⟩

set_option maxRecDepth 100000 in
set_option maxHeartbeats 4000000 in
theorem names_false (A1 A2 : Option Addr) (l1 l2 : List Int) (c1 c2 : Nat) (keep : Int) (w : World) (h1 : U8.C w A1 l1.length l1) (h2 : U8.C w A2 l2.length l2) (b1 : l1.length ≤ c1) (b2 : l2.length ≤ c2)
    (p0 : 0 ≤ keep) (p1 : keep ≤ 255) :
    Calls Try.prog 6 #[.agg #[.slice A1 l1.length c1, .slice A2 l2.length c2], .bool false, .int .u8 keep] w fun e w' => e = .returned (.bool true) ∧ Below w.heap.size w w' := by
  obtain ⟨a, ha⟩ : ∃ a, a = l1.take 50 := ⟨_, rfl⟩
  obtain ⟨b, hb⟩ : ∃ b, b = l2.take 50 := ⟨_, rfl⟩
  have la : a.length ≤ 50 := by rw [ha, List.length_take]; omega
  have lb : b.length ≤ 50 := by rw [hb, List.length_take]; omega
  have ca : a.length ≤ c1 := by rw [ha, List.length_take]; omega
  have Ha := hide (show U8.C w A1 a.length a by rw [ha]; exact C_takeN h1 50)
  have Hb := hide (show U8.C w A2 b.length b by rw [hb]; exact C_takeN h2 50)
  have H1 := hide h1
  have H2 := hide h2
  have EA := hide ha
  have EB := hide hb
  clear h1 h2 ha hb
  go_enter Try.func6, Try.ntmps6
  go_wp2_with fail
  refine (shown_any _).mono ?_
  rintro e w1 ⟨rfl, hb⟩
  have B1 := hide (show Below w.heap.size w w1 from ((Below.refl w.heap.size w).alloc (Nat.le_refl _) _).trans (hb.mono (by simp)))
  have e0 : w1.cell? ⟨w.heap.size, 0, none⟩ = some (.slice A1 l1.length c1) := pw_cell_below hb (by simp)
  have e1 : w1.cell? ⟨w.heap.size, 1, none⟩ = some (.slice A2 l2.length c2) := pw_cell_below hb (by simp)
  clear hb
  go_wp2_with fail
  refine (new_any _).mono ?_
  rintro e w2 ⟨g, rfl, hd, hb⟩
  have O2 := hide (Own.new hd hb)
  have B2 := hide (B1.out.trans (hb.mono B1.out.size))
  clear hd hb e0 e1
  go_wp2_with fail
  refine (few_any A1 l1 c1 _ (C_old H1.out B2.out) b1).mono ?_
  rintro e w' ⟨rfl, rfl⟩
  rw [← EA.out]
  go_wp2_with fail
  refine (write_own _ O2.out na A1 a c1 (by decide) (C_old Ha.out B2.out) (by omega) (by decide)).mono ?_
  rintro e w3 ⟨rfl, S3, h3, -⟩
  have O3 := hide h3
  have B3 := hide (B1.out.trans (h3.bel.mono B1.out.size))
  clear h3 O2
  go_wp2_with fail
  refine (few_any A2 l2 c2 _ (C_old H2.out B3.out) b2).mono ?_
  rintro e w' ⟨rfl, rfl⟩
  rw [← EB.out]
  go_wp2_with fail
  refine (write_own _ O3.out nb A2 b c2 (by decide) (C_old Hb.out B3.out) (by omega) (by decide)).mono ?_
  rintro e w4 ⟨rfl, S4, h4, -⟩
  have O4 := hide h4
  have fa4 := hide (show updF (updF (fun _ => none) (nm na) (some (a, false))) (nm nb) (some (b, false)) (nm na) = some (a, false) by rw [updF_other _ _ ab, updF_same])
  have fb4 := hide (show updF (updF (fun _ => none) (nm na) (some (a, false))) (nm nb) (some (b, false)) (nm nb) = some (b, false) by rw [updF_same])
  clear h4 O3
  generalize updF (updF (fun _ => none) (nm na) (some (a, false))) (nm nb) (some (b, false)) = F4 at O4 fa4 fb4
  go_wp2_with fail
  refine (sync_own _ O4.out nb (by decide) (by decide) fb4.out).mono ?_
  rintro e w5 ⟨rfl, S5, h5, -⟩
  have O5 := hide h5
  have fa5 := hide (show updF F4 (nm nb) (some (b, true)) (nm na) = some (a, false) by rw [updF_other _ _ ab]; exact fa4.out)
  clear h5 O4
  generalize updF F4 (nm nb) (some (b, true)) = F5 at O5 fa5
  have O6 := O5
  have fa6 := fa5
  clear O5 fa5
  generalize F5 = F6 at O6 fa6
  go_wp2_with fail
  refine (ren_own _ O6.out na nb (by decide) (by decide) (by decide) fa6.out).mono ?_
  rintro e w7 ⟨rfl, S7, h7, -⟩
  have O7 := hide h7
  have fa7 := hide (show updF (updF F6 (nm na) none) (nm nb) (some (a, false)) (nm na) = none by rw [updF_other _ _ ab, updF_same])
  have fb7 := hide (show updF (updF F6 (nm na) none) (nm nb) (some (a, false)) (nm nb) = some (a, false) by rw [updF_same])
  clear h7 O6
  generalize updF (updF F6 (nm na) none) (nm nb) (some (a, false)) = F7 at O7 fa7 fb7
  go_wp2_with fail
  refine (ren_own_no _ O7.out na nc (by decide) (by decide) (by decide) fa7.out).mono ?_
  rintro e w8 ⟨rfl, S8, h8, -⟩
  have O8 := hide h8
  clear h8 O7
  go_wp2_with fail
  refine (read_none g _ _ _ na _ O8.out.disk.1 (by decide) fa7.out).mono ?_
  rintro e w9 ⟨A9, c9, rfl, hb⟩
  have O9 := hide (O8.out.below hb)
  clear hb O8
  go_wp2_with fail
  refine (read_some g _ _ _ nb _ O9.out.disk.1 (by decide) fb7.out).mono ?_
  rintro e w10 ⟨A10, c10, rfl, hc10, hv, hb⟩
  have O10 := hide (O9.out.below hb)
  have L9 := hide O9.out.disk.2
  have X10 := hide hv
  clear hb O9 hv
  go_wp2_with fail
  refine (crash_own _ O10.out keep (by decide) (by omega) (by omega)).mono ?_
  rintro e w11 ⟨rfl, S11, h11, hk⟩
  have O11 := hide h11
  have X11 := hide (C_rkp X10.out hk L9.out)
  have fb11 := hide (show crashF keep F7 (nm nb) = some (cutB keep a, true) from crashF_some fb7.out)
  clear h11 O10 X10 L9 hk
  generalize crashF keep F7 = F11 at O11 fb11
  go_wp2_with fail
  refine (read_some g _ _ _ nb _ O11.out.disk.1 (by decide) fb11.out).mono ?_
  rintro e w12 ⟨A12, c12, rfl, hc12, hv, hb⟩
  have O12 := hide (O11.out.below hb)
  have B12 := hide (B1.out.trans (O12.out.bel.mono B1.out.size))
  have k10 := strq (c := c10) (C_below' (w0 := w12) X11.out hb)
  have k12 := strq (c := c12) (Kd.R_reads' hv).2.2
  have ka := strq (c := c1) (C_old Ha.out B12.out)
  clear hb hv O11 X11
  have q0 : 0 ≤ keep % ((a.length : Int) + 1) := Int.emod_nonneg _ (by omega)
  have q1 : keep % ((a.length : Int) + 1) ≤ (c1 : Int) := by have := Int.emod_lt_of_pos keep (show (0 : Int) < (a.length : Int) + 1 by omega); omega
  have ec : ((keep % ((a.length : Int) + 1)).toNat) = (cutB keep a).length := by
    have h3 := keep_mod keep a.length
    rw [if_neg (by omega)] at h3
    rw [h3]
    unfold cutB
    rw [List.length_take]
    have := Nat.mod_lt keep.toNat (show 0 < a.length + 1 by omega)
    omega
  have kx : ∀ n, (convert 30 9 (.slice A1 ((keep % ((a.length : Int) + 1)).toNat) c1)).run Try.prog (w12.drewN n) = .ok (.string (strOfNums (cutB keep a))) (w12.drewN n) := by
    rw [ec]
    exact strq (c := c1) (C_takeN (C_old Ha.out B12.out) _)
  clear ec
  go_wp2_with fail
  have k10' : (convert 30 9 (.slice A10 a.length c10)).run Try.prog w12.drew = .ok (.string (strOfNums a)) w12.drew := k10 1
  have k12' : (convert 30 9 (.slice A12 (cutB keep a).length c12)).run Try.prog w12.drew = .ok (.string (strOfNums (cutB keep a))) w12.drew := k12 1
  have ka' : (convert 30 9 (.slice A1 a.length c1)).run Try.prog w12.drew = .ok (.string (strOfNums a)) w12.drew := ka 1
  have kx' : (convert 30 9 (.slice A1 ((keep % ((a.length : Int) + 1)).toNat) c1)).run Try.prog w12.drew = .ok (.string (strOfNums (cutB keep a))) w12.drew := kx 1
  go_still_tail 34, (by kernel_rfl)
  have O13 := hide (O12.out.below (w' := w12.drew) ⟨rfl, rfl, rfl, Nat.le_refl _, fun _ _ => rfl⟩)
  clear k10 k12 ka
  go_wp2_with fail
  refine (ren_own _ O13.out nb nb (by decide) (by decide) (by decide) fb11.out).mono ?_
  rintro e w14 ⟨rfl, S14, h14, -⟩
  have B14 := hide (B1.out.trans (h14.bel.mono B1.out.size))
  clear h14
  go_wp2
  go_ret
  exact ⟨rfl, B14.out⟩

theorem names_row (A1 A2 : Option Addr) (l1 l2 : List Int) (c1 c2 : Nat) (safe : Bool) (keep : Int) (w : World) (h1 : U8.C w A1 l1.length l1) (h2 : U8.C w A2 l2.length l2) (b1 : l1.length ≤ c1) (b2 : l2.length ≤ c2)
    (p0 : 0 ≤ keep) (p1 : keep ≤ 255) :
    Calls Try.prog 6 #[.agg #[.slice A1 l1.length c1, .slice A2 l2.length c2], .bool safe, .int .u8 keep] w fun e w' => e = .returned (.bool true) ∧ Below w.heap.size w w' := by
  cases safe
  · exact names_false A1 A2 l1 l2 c1 c2 keep w h1 h2 b1 b2 p0 p1
  · exact names_true A1 A2 l1 l2 c1 c2 keep w h1 h2 b1 b2 p0 p1
end Go.Proofs.Ytdjbapbfbgcfjaa
