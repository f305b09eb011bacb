/- The walk of DiskLeft. -/
import Derived.Test.YtdjbapbfbgcfjaaDiskL1
set_option linter.unusedVariables false
set_option linter.unusedSimpArgs false
namespace Go.Proofs.Ytdjbapbfbgcfjaa
open Go.RowKit Go.Maps Go.ChangeMaps Go.MapKept Mv Go.Proofs.YtdjbapbfbgcfjaaW.PrintWords

theorem crashF_some {keep : Int} {F : Lit → Option (List Int × Bool)} {x : Lit} {f : List Int × Bool} (h : F x = some f) : crashF keep F x = some (crash1 keep f) := by unfold crashF; rw [h]; rfl
theorem crashF_none {keep : Int} {F : Lit → Option (List Int × Bool)} {x : Lit} (h : F x = none) : crashF keep F x = none := by unfold crashF; rw [h]; rfl

/-- What a read gives, where there is a file, and where there is none. -/
theorem read_some (g n : Nat) (S : Nat → Prop) (F : Lit → Option (List Int × Bool)) (s : ByteArray) (w : World) (H : DiskAt w g S n F) (hs : s.size ≤ maxLen) {f : List Int × Bool} (hf : F (nm s) = some f) :
    Calls Try.prog 24 #[.pointer (some ⟨g, 0, none⟩), .string s] w fun e w' => ∃ A c, e = .returned (.tuple #[.slice A f.1.length c, .bool true]) ∧ f.1.length ≤ c ∧ U8.R 5 w' w.heap.size (fun k => w.heap.size ≤ k) (.slice A f.1.length c) f.1 ∧ Below w.heap.size w w' := by
  refine (read_any g n S F s w H hs).mono ?_
  rw [hf]
  rintro e w' ⟨v, rfl, hv, hb⟩
  obtain ⟨A, c, rfl, hc, _⟩ := Kd.R_reads hv
  exact ⟨A, c, rfl, hc, hv, hb⟩
theorem read_none (g n : Nat) (S : Nat → Prop) (F : Lit → Option (List Int × Bool)) (s : ByteArray) (w : World) (H : DiskAt w g S n F) (hs : s.size ≤ maxLen) (hf : F (nm s) = none) :
    Calls Try.prog 24 #[.pointer (some ⟨g, 0, none⟩), .string s] w fun e w' => ∃ A c, e = .returned (.tuple #[.slice A 0 c, .bool false]) ∧ Below w.heap.size w w' := by
  refine (read_any g n S F s w H hs).mono ?_
  rw [hf]
  rintro e w' ⟨v, rfl, hv, hb⟩
  obtain ⟨A, c, rfl, hc, _⟩ := Kd.R_reads hv
  exact ⟨A, c, rfl, hb⟩
theorem load_some (g n : Nat) (S : Nat → Prop) (F : Lit → Option (List Int × Bool)) (w : World) (H : DiskAt w g S n F) {f : List Int × Bool} (hf : F (nm users) = some f) :
    Calls Try.prog 15 #[.pointer (some ⟨g, 0, none⟩)] w fun e w' => ∃ A c, e = .returned (.tuple #[.slice A f.1.length c, .bool true]) ∧ f.1.length ≤ c ∧ U8.R 5 w' w.heap.size (fun k => w.heap.size ≤ k) (.slice A f.1.length c) f.1 ∧ Below w.heap.size w w' := by
  refine (load_any g n S F w H).mono ?_
  rw [hf]
  rintro e w' ⟨v, rfl, hv, hb⟩
  obtain ⟨A, c, rfl, hc, _⟩ := Kd.R_reads hv
  exact ⟨A, c, rfl, hc, hv, hb⟩
theorem load_none (g n : Nat) (S : Nat → Prop) (F : Lit → Option (List Int × Bool)) (w : World) (H : DiskAt w g S n F) (hf : F (nm users) = none) :
    Calls Try.prog 15 #[.pointer (some ⟨g, 0, none⟩)] w fun e w' => ∃ A c, e = .returned (.tuple #[.slice A 0 c, .bool false]) ∧ Below w.heap.size w w' := by
  refine (load_any g n S F w H).mono ?_
  rw [hf]
  rintro e w' ⟨v, rfl, hv, hb⟩
  obtain ⟨A, c, rfl, hc, _⟩ := Kd.R_reads hv
  exact ⟨A, c, rfl, hb⟩

theorem C_takeN {w : World} {A : Option Addr} {l : List Int} (h : U8.C w A l.length l) (k : Nat) : U8.C w A (l.take k).length (l.take k) := by
  by_cases hk : k ≤ l.length
  · exact Kd.C_take h hk
  · rw [List.take_of_length_le (by omega)]; exact h
theorem C_below' {w0 w w' : World} {A : Option Addr} {l : List Int} (h : U8.C w A l.length l) (hb : Below w.heap.size w w') : U8.C w' A l.length l := Kd.C_below h hb
theorem C_old {w0 w : World} {A : Option Addr} {l : List Int} (h : U8.C w0 A l.length l) (hb : Below w0.heap.size w0 w) : U8.C w A l.length l := Kd.C_below h hb
theorem str_C {w : World} {A : Option Addr} {l : List Int} {c : Nat} (h : U8.C w A l.length l) : (convert 30 9 (.slice A l.length c)).run Try.prog w = .ok (.string (strOfNums l)) w :=
  Kd.C_string Try.underlying30 Try.underlying5 Try.underlying9 h
theorem C_kp {w w' : World} {A : Option Addr} {l : List Int} {S : Nat → Prop} (h : U8.C w A l.length l) (hk : Kp S w w') (hS : ∀ ad, A = some ad → ¬ S ad.block) : U8.C w' A l.length l :=
  C_cells h fun ad e a v hb hc => hk.cell hc (by rw [hb]; exact hS ad e)
theorem C_rkp {w0 w w' : World} {A : Option Addr} {c : Nat} {l : List Int} {S : Nat → Prop} (h : U8.R 5 w w0.heap.size (fun k => w0.heap.size ≤ k) (.slice A l.length c) l) (hk : Kp S w w') (hS : ∀ k, S k → k < w0.heap.size) : U8.C w' A l.length l :=
  C_kp (Kd.R_reads' h).2.2 hk fun ad e hs => by
    have h1 : w0.heap.size ≤ ad.block := h.1 ad.block (by rw [e]; rfl)
    have h2 := hS _ hs
    omega
theorem strq {w : World} {A : Option Addr} {l : List Int} {c : Nat} (h : U8.C w A l.length l) : ∀ n, (convert 30 9 (.slice A l.length c)).run Try.prog (w.drewN n) = .ok (.string (strOfNums l)) (w.drewN n) := fun n => str_C (w := w.drewN n) h
theorem steps_m1 : steps (-1) = 3 := rfl


set_option maxRecDepth 100000 in
set_option maxHeartbeats 4000000 in
theorem left_0 (A1 A2 : Option Addr) (l1 l2 : List Int) (c1 c2 : Nat) (stop keep : Int) (w : World) (h1 : U8.C w A1 l1.length l1) (h2 : U8.C w A2 l2.length l2) (b1 : l1.length ≤ c1) (b2 : l2.length ≤ c2)
    (s0 : 0 ≤ stop) (s1 : stop ≤ 255) (p0 : 0 ≤ keep) (p1 : keep ≤ 255) (hq : stop % 3 = 0) :
    Calls Try.prog 7 #[.agg #[.slice A1 l1.length c1, .slice A2 l2.length c2], .int .u8 stop, .int .u8 keep] w fun e w' => e = .returned (.bool true) ∧ Below w.heap.size w w' := by
  obtain ⟨a, ha⟩ : ∃ a, a = l1.take 50 := ⟨_, rfl⟩
  obtain ⟨b, hb⟩ : ∃ b, b = l2.take 50 := ⟨_, rfl⟩
  have la : a.length ≤ 50 := by rw [ha, List.length_take]; omega
  have lb : b.length ≤ 50 := by rw [hb, List.length_take]; omega
  have ca : a.length ≤ c1 := by rw [ha, List.length_take]; omega
  have Ha := hide (show U8.C w A1 a.length a by rw [ha]; exact C_takeN h1 50)
  have Hb := hide (show U8.C w A2 b.length b by rw [hb]; exact C_takeN h2 50)
  have H1 := hide h1
  have H2 := hide h2
  have EA := hide ha
  have EB := hide hb
  have Q := hide (show steps 0 = 0 from rfl)
  clear h1 h2 ha hb
  go_enter Try.func7, Try.ntmps7
  go_wp2_with fail
  refine (shown_any _).mono ?_
  rintro e w1 ⟨rfl, hb⟩
  have B1 := hide (show Below w.heap.size w w1 from ((Below.refl w.heap.size w).alloc (Nat.le_refl _) _).trans (hb.mono (by simp)))
  have e0 : w1.cell? ⟨w.heap.size, 0, none⟩ = some (.slice A1 l1.length c1) := pw_cell_below hb (by simp)
  have e1 : w1.cell? ⟨w.heap.size, 1, none⟩ = some (.slice A2 l2.length c2) := pw_cell_below hb (by simp)
  have z1 : w.heap.size < w1.heap.size := by have := hb.size; simp at this; omega
  clear hb
  go_wp2_with fail
  refine (new_any _).mono ?_
  rintro e w2 ⟨g, rfl, hd, hb⟩
  have O2 := hide (Own.new hd hb)
  have B2 := hide (B1.out.trans (hb.mono B1.out.size))
  replace e0 := pw_cell_below hb e0
  replace e1 := pw_cell_below hb e1
  clear hd hb z1
  go_wp2_with fail
  refine (few_any A1 l1 c1 _ (C_old H1.out B2.out) b1).mono ?_
  rintro e w' ⟨rfl, rfl⟩
  rw [← EA.out]
  go_wp2_with fail
  refine (few_any A2 l2 c2 _ (C_old H2.out B2.out) b2).mono ?_
  rintro e w' ⟨rfl, rfl⟩
  rw [← EB.out]
  clear e0 e1
  go_wp2_with fail
  refine (save_any g 0 _ _ A1 a c1 0 _ (by omega) O2.out.disk.1 O2.out.disk.2 (by decide) (C_old Ha.out B2.out)).mono ?_
  rintro e w3 ⟨rfl, hd, hk⟩
  rw [Q.out] at hd
  have O3 := hide (O2.out.step hd hk)
  have U3 := hide (show saveF (fun _ => none) a 0 (nm users) = none by rw [saveF_users]; rfl)
  have T3 := hide (show saveF (fun _ => none) a 0 (nm tmp) = none from saveF_tmp _ _ _)
  clear hd hk
  generalize saveF (fun _ => none) a 0 = F3 at O3 U3 T3
  go_wp2_with fail
  refine (load_none g _ _ _ _ O3.out.disk.1 U3.out).mono ?_
  rintro e w4 ⟨A4, c4, rfl, hb⟩
  have O4 := hide (O3.out.below hb)
  clear hb O3
  go_wp2_with fail
  refine (crash_any g _ _ _ keep _ O4.out.disk.1 (by decide) (by omega) (by omega)).mono ?_
  rintro e w5 ⟨rfl, hd, hk⟩
  have O5 := hide (O4.out.step hd hk)
  have T5 := hide (show crashF keep F3 (nm tmp) = none from crashF_none (keep := keep) T3.out)
  have L5 := hide O5.out.disk.2
  clear hd hk O4
  generalize crashF keep F3 = F5 at O5 T5
  clear T3 U3
  go_wp2_with fail
  refine (read_none g _ _ _ tmp _ O5.out.disk.1 (by decide) T5.out).mono ?_
  rintro e w6 ⟨A6, c6, rfl, hb⟩
  have O6 := hide (O5.out.below hb)
  have B6 := hide (B1.out.trans (O6.out.bel.mono B1.out.size))
  clear hb O5 T5
  go_wp2_with fail
  refine (save_any g _ _ _ A2 b c2 (-1) _ (by omega) O6.out.disk.1 O6.out.disk.2 (by decide) (C_old Hb.out B6.out)).mono ?_
  rw [steps_m1]
  rintro e w7 ⟨rfl, hd, hk⟩
  have O7 := hide (O6.out.step hd hk)
  have U7 := hide (show saveF F5 b 3 (nm users) = some (b, true) by rw [saveF_users]; rfl)
  have T7 := hide (show saveF F5 b 3 (nm tmp) = none from saveF_tmp _ _ _)
  clear hd hk O6
  generalize saveF F5 b 3 = F7 at O7 U7 T7
  go_wp2_with fail
  refine (load_some g _ _ _ _ O7.out.disk.1 U7.out).mono ?_
  rintro e w8 ⟨A8, c8, rfl, hc8, hv, hb⟩
  have O8 := hide (O7.out.below hb)
  have X8 := hide (Kd.R_reads' hv)
  clear hv hb O7 U7
  go_wp2_with fail
  refine (read_none g _ _ _ tmp _ O8.out.disk.1 (by decide) T7.out).mono ?_
  rintro e w9 ⟨A9, c9, rfl, hb⟩
  have O9 := hide (O8.out.below hb)
  have B9 := hide (B1.out.trans (O9.out.bel.mono B1.out.size))
  have k8 := strq (c := c8) (C_below' (w0 := w9) X8.out.2.2 hb)
  have kb := strq (c := c2) (C_old Hb.out B9.out)
  clear hb O8 X8
  go_wp2_with fail
  go_quiet (fail)
  go_wp2
  go_ret
  exact ⟨rfl, pw_below_drewN B9.out _⟩

set_option maxRecDepth 100000 in
set_option maxHeartbeats 4000000 in
theorem left_1 (A1 A2 : Option Addr) (l1 l2 : List Int) (c1 c2 : Nat) (stop keep : Int) (w : World) (h1 : U8.C w A1 l1.length l1) (h2 : U8.C w A2 l2.length l2) (b1 : l1.length ≤ c1) (b2 : l2.length ≤ c2)
    (s0 : 0 ≤ stop) (s1 : stop ≤ 255) (p0 : 0 ≤ keep) (p1 : keep ≤ 255) (hq : stop % 3 = 1) :
    Calls Try.prog 7 #[.agg #[.slice A1 l1.length c1, .slice A2 l2.length c2], .int .u8 stop, .int .u8 keep] w fun e w' => e = .returned (.bool true) ∧ Below w.heap.size w w' := by
  obtain ⟨a, ha⟩ : ∃ a, a = l1.take 50 := ⟨_, rfl⟩
  obtain ⟨b, hb⟩ : ∃ b, b = l2.take 50 := ⟨_, rfl⟩
  have la : a.length ≤ 50 := by rw [ha, List.length_take]; omega
  have lb : b.length ≤ 50 := by rw [hb, List.length_take]; omega
  have ca : a.length ≤ c1 := by rw [ha, List.length_take]; omega
  have Ha := hide (show U8.C w A1 a.length a by rw [ha]; exact C_takeN h1 50)
  have Hb := hide (show U8.C w A2 b.length b by rw [hb]; exact C_takeN h2 50)
  have H1 := hide h1
  have H2 := hide h2
  have EA := hide ha
  have EB := hide hb
  have Q := hide (show steps 1 = 1 from rfl)
  clear h1 h2 ha hb
  go_enter Try.func7, Try.ntmps7
  go_wp2_with fail
  refine (shown_any _).mono ?_
  rintro e w1 ⟨rfl, hb⟩
  have B1 := hide (show Below w.heap.size w w1 from ((Below.refl w.heap.size w).alloc (Nat.le_refl _) _).trans (hb.mono (by simp)))
  have e0 : w1.cell? ⟨w.heap.size, 0, none⟩ = some (.slice A1 l1.length c1) := pw_cell_below hb (by simp)
  have e1 : w1.cell? ⟨w.heap.size, 1, none⟩ = some (.slice A2 l2.length c2) := pw_cell_below hb (by simp)
  have z1 : w.heap.size < w1.heap.size := by have := hb.size; simp at this; omega
  clear hb
  go_wp2_with fail
  refine (new_any _).mono ?_
  rintro e w2 ⟨g, rfl, hd, hb⟩
  have O2 := hide (Own.new hd hb)
  have B2 := hide (B1.out.trans (hb.mono B1.out.size))
  replace e0 := pw_cell_below hb e0
  replace e1 := pw_cell_below hb e1
  clear hd hb z1
  go_wp2_with fail
  refine (few_any A1 l1 c1 _ (C_old H1.out B2.out) b1).mono ?_
  rintro e w' ⟨rfl, rfl⟩
  rw [← EA.out]
  go_wp2_with fail
  refine (few_any A2 l2 c2 _ (C_old H2.out B2.out) b2).mono ?_
  rintro e w' ⟨rfl, rfl⟩
  rw [← EB.out]
  clear e0 e1
  go_wp2_with fail
  refine (save_any g 0 _ _ A1 a c1 1 _ (by omega) O2.out.disk.1 O2.out.disk.2 (by decide) (C_old Ha.out B2.out)).mono ?_
  rintro e w3 ⟨rfl, hd, hk⟩
  rw [Q.out] at hd
  have O3 := hide (O2.out.step hd hk)
  have U3 := hide (show saveF (fun _ => none) a 1 (nm users) = none by rw [saveF_users]; rfl)
  have T3 := hide (show saveF (fun _ => none) a 1 (nm tmp) = some (a, false) from saveF_tmp _ _ _)
  clear hd hk
  generalize saveF (fun _ => none) a 1 = F3 at O3 U3 T3
  go_wp2_with fail
  refine (load_none g _ _ _ _ O3.out.disk.1 U3.out).mono ?_
  rintro e w4 ⟨A4, c4, rfl, hb⟩
  have O4 := hide (O3.out.below hb)
  clear hb O3
  go_wp2_with fail
  refine (crash_any g _ _ _ keep _ O4.out.disk.1 (by decide) (by omega) (by omega)).mono ?_
  rintro e w5 ⟨rfl, hd, hk⟩
  have O5 := hide (O4.out.step hd hk)
  have T5 := hide (show crashF keep F3 (nm tmp) = some (cutB keep a, true) from crashF_some (keep := keep) T3.out)
  have L5 := hide O5.out.disk.2
  clear hd hk O4
  generalize crashF keep F3 = F5 at O5 T5
  clear T3 U3
  go_wp2_with fail
  refine (read_some g _ _ _ tmp _ O5.out.disk.1 (by decide) T5.out).mono ?_
  rintro e w6 ⟨A6, c6, rfl, hc6, hv, hb⟩
  have O6 := hide (O5.out.below hb)
  have B6 := hide (B1.out.trans (O6.out.bel.mono B1.out.size))
  have X6 := hide hv
  clear hv
  clear hb O5 T5
  go_wp2_with fail
  refine (save_any g _ _ _ A2 b c2 (-1) _ (by omega) O6.out.disk.1 O6.out.disk.2 (by decide) (C_old Hb.out B6.out)).mono ?_
  rw [steps_m1]
  rintro e w7 ⟨rfl, hd, hk⟩
  have O7 := hide (O6.out.step hd hk)
  have U7 := hide (show saveF F5 b 3 (nm users) = some (b, true) by rw [saveF_users]; rfl)
  have T7 := hide (show saveF F5 b 3 (nm tmp) = none from saveF_tmp _ _ _)
  have X7 := hide (C_rkp X6.out hk L5.out)
  clear X6
  clear hd hk O6
  generalize saveF F5 b 3 = F7 at O7 U7 T7
  go_wp2_with fail
  refine (load_some g _ _ _ _ O7.out.disk.1 U7.out).mono ?_
  rintro e w8 ⟨A8, c8, rfl, hc8, hv, hb⟩
  have O8 := hide (O7.out.below hb)
  have X8 := hide (Kd.R_reads' hv)
  have X8a := hide (C_below' (w0 := w8) X7.out hb)
  clear X7
  clear hv hb O7 U7
  go_wp2_with fail
  refine (read_none g _ _ _ tmp _ O8.out.disk.1 (by decide) T7.out).mono ?_
  rintro e w9 ⟨A9, c9, rfl, hb⟩
  have O9 := hide (O8.out.below hb)
  have B9 := hide (B1.out.trans (O9.out.bel.mono B1.out.size))
  have k8 := strq (c := c8) (C_below' (w0 := w9) X8.out.2.2 hb)
  have kb := strq (c := c2) (C_old Hb.out B9.out)
  have k6 := strq (c := c6) (C_below' (w0 := w9) X8a.out hb)
  clear X8a
  clear hb O8 X8
  have q0 : 0 ≤ keep % ((a.length : Int) + 1) := Int.emod_nonneg _ (by omega)
  have q1 : keep % ((a.length : Int) + 1) ≤ (c1 : Int) := by have := Int.emod_lt_of_pos keep (show (0 : Int) < (a.length : Int) + 1 by omega); omega
  have ec : ((keep % ((a.length : Int) + 1)).toNat) = (cutB keep a).length := by
    have h3 := keep_mod keep a.length
    rw [if_neg (by omega)] at h3
    rw [h3]
    unfold cutB
    rw [List.length_take]
    have := Nat.mod_lt keep.toNat (show 0 < a.length + 1 by omega)
    omega
  have ka : ∀ n, (convert 30 9 (.slice A1 ((keep % ((a.length : Int) + 1)).toNat) c1)).run Try.prog (w9.drewN n) = .ok (.string (strOfNums (cutB keep a))) (w9.drewN n) := by
    rw [ec]
    exact strq (c := c1) (C_takeN (C_old Ha.out B9.out) _)
  clear ec
  go_wp2_with fail
  go_quiet (fail)
  go_wp2
  go_ret
  exact ⟨rfl, pw_below_drewN B9.out _⟩

set_option maxRecDepth 100000 in
set_option maxHeartbeats 4000000 in
theorem left_2 (A1 A2 : Option Addr) (l1 l2 : List Int) (c1 c2 : Nat) (stop keep : Int) (w : World) (h1 : U8.C w A1 l1.length l1) (h2 : U8.C w A2 l2.length l2) (b1 : l1.length ≤ c1) (b2 : l2.length ≤ c2)
    (s0 : 0 ≤ stop) (s1 : stop ≤ 255) (p0 : 0 ≤ keep) (p1 : keep ≤ 255) (hq : stop % 3 = 2) :
    Calls Try.prog 7 #[.agg #[.slice A1 l1.length c1, .slice A2 l2.length c2], .int .u8 stop, .int .u8 keep] w fun e w' => e = .returned (.bool true) ∧ Below w.heap.size w w' := by
  obtain ⟨a, ha⟩ : ∃ a, a = l1.take 50 := ⟨_, rfl⟩
  obtain ⟨b, hb⟩ : ∃ b, b = l2.take 50 := ⟨_, rfl⟩
  have la : a.length ≤ 50 := by rw [ha, List.length_take]; omega
  have lb : b.length ≤ 50 := by rw [hb, List.length_take]; omega
  have ca : a.length ≤ c1 := by rw [ha, List.length_take]; omega
  have Ha := hide (show U8.C w A1 a.length a by rw [ha]; exact C_takeN h1 50)
  have Hb := hide (show U8.C w A2 b.length b by rw [hb]; exact C_takeN h2 50)
  have H1 := hide h1
  have H2 := hide h2
  have EA := hide ha
  have EB := hide hb
  have Q := hide (show steps 2 = 2 from rfl)
  clear h1 h2 ha hb
  go_enter Try.func7, Try.ntmps7
  go_wp2_with fail
  refine (shown_any _).mono ?_
  rintro e w1 ⟨rfl, hb⟩
  have B1 := hide (show Below w.heap.size w w1 from ((Below.refl w.heap.size w).alloc (Nat.le_refl _) _).trans (hb.mono (by simp)))
  have e0 : w1.cell? ⟨w.heap.size, 0, none⟩ = some (.slice A1 l1.length c1) := pw_cell_below hb (by simp)
  have e1 : w1.cell? ⟨w.heap.size, 1, none⟩ = some (.slice A2 l2.length c2) := pw_cell_below hb (by simp)
  have z1 : w.heap.size < w1.heap.size := by have := hb.size; simp at this; omega
  clear hb
  go_wp2_with fail
  refine (new_any _).mono ?_
  rintro e w2 ⟨g, rfl, hd, hb⟩
  have O2 := hide (Own.new hd hb)
  have B2 := hide (B1.out.trans (hb.mono B1.out.size))
  replace e0 := pw_cell_below hb e0
  replace e1 := pw_cell_below hb e1
  clear hd hb z1
  go_wp2_with fail
  refine (few_any A1 l1 c1 _ (C_old H1.out B2.out) b1).mono ?_
  rintro e w' ⟨rfl, rfl⟩
  rw [← EA.out]
  go_wp2_with fail
  refine (few_any A2 l2 c2 _ (C_old H2.out B2.out) b2).mono ?_
  rintro e w' ⟨rfl, rfl⟩
  rw [← EB.out]
  clear e0 e1
  go_wp2_with fail
  refine (save_any g 0 _ _ A1 a c1 2 _ (by omega) O2.out.disk.1 O2.out.disk.2 (by decide) (C_old Ha.out B2.out)).mono ?_
  rintro e w3 ⟨rfl, hd, hk⟩
  rw [Q.out] at hd
  have O3 := hide (O2.out.step hd hk)
  have U3 := hide (show saveF (fun _ => none) a 2 (nm users) = none by rw [saveF_users]; rfl)
  have T3 := hide (show saveF (fun _ => none) a 2 (nm tmp) = some (a, true) from saveF_tmp _ _ _)
  clear hd hk
  generalize saveF (fun _ => none) a 2 = F3 at O3 U3 T3
  go_wp2_with fail
  refine (load_none g _ _ _ _ O3.out.disk.1 U3.out).mono ?_
  rintro e w4 ⟨A4, c4, rfl, hb⟩
  have O4 := hide (O3.out.below hb)
  clear hb O3
  go_wp2_with fail
  refine (crash_any g _ _ _ keep _ O4.out.disk.1 (by decide) (by omega) (by omega)).mono ?_
  rintro e w5 ⟨rfl, hd, hk⟩
  have O5 := hide (O4.out.step hd hk)
  have T5 := hide (show crashF keep F3 (nm tmp) = some (a, true) from crashF_some (keep := keep) T3.out)
  have L5 := hide O5.out.disk.2
  clear hd hk O4
  generalize crashF keep F3 = F5 at O5 T5
  clear T3 U3
  go_wp2_with fail
  refine (read_some g _ _ _ tmp _ O5.out.disk.1 (by decide) T5.out).mono ?_
  rintro e w6 ⟨A6, c6, rfl, hc6, hv, hb⟩
  have O6 := hide (O5.out.below hb)
  have B6 := hide (B1.out.trans (O6.out.bel.mono B1.out.size))
  have X6 := hide hv
  clear hv
  clear hb O5 T5
  go_wp2_with fail
  refine (save_any g _ _ _ A2 b c2 (-1) _ (by omega) O6.out.disk.1 O6.out.disk.2 (by decide) (C_old Hb.out B6.out)).mono ?_
  rw [steps_m1]
  rintro e w7 ⟨rfl, hd, hk⟩
  have O7 := hide (O6.out.step hd hk)
  have U7 := hide (show saveF F5 b 3 (nm users) = some (b, true) by rw [saveF_users]; rfl)
  have T7 := hide (show saveF F5 b 3 (nm tmp) = none from saveF_tmp _ _ _)
  have X7 := hide (C_rkp X6.out hk L5.out)
  clear X6
  clear hd hk O6
  generalize saveF F5 b 3 = F7 at O7 U7 T7
  go_wp2_with fail
  refine (load_some g _ _ _ _ O7.out.disk.1 U7.out).mono ?_
  rintro e w8 ⟨A8, c8, rfl, hc8, hv, hb⟩
  have O8 := hide (O7.out.below hb)
  have X8 := hide (Kd.R_reads' hv)
  have X8a := hide (C_below' (w0 := w8) X7.out hb)
  clear X7
  clear hv hb O7 U7
  go_wp2_with fail
  refine (read_none g _ _ _ tmp _ O8.out.disk.1 (by decide) T7.out).mono ?_
  rintro e w9 ⟨A9, c9, rfl, hb⟩
  have O9 := hide (O8.out.below hb)
  have B9 := hide (B1.out.trans (O9.out.bel.mono B1.out.size))
  have k8 := strq (c := c8) (C_below' (w0 := w9) X8.out.2.2 hb)
  have kb := strq (c := c2) (C_old Hb.out B9.out)
  have k6 := strq (c := c6) (C_below' (w0 := w9) X8a.out hb)
  clear X8a
  clear hb O8 X8
  have ka := strq (c := c1) (C_old Ha.out B9.out)
  go_wp2_with fail
  go_quiet (fail)
  go_wp2
  go_ret
  exact ⟨rfl, pw_below_drewN B9.out _⟩
end Go.Proofs.Ytdjbapbfbgcfjaa
