/- rule.read in plain words. -/
import Derived.Test.YtencimfeipglaaaDoorPRul1
import Derived.Test.YtencimfeipglaaaDoorXx25
set_option linter.unusedVariables false
set_option linter.unusedSimpArgs false
namespace Go.Proofs.YtencimfeipglaaaDoor.X
open Go.RowKit Go.Lib Go.Proofs.YtencimfeipglaaaDoorW.PrintWords Go.Proofs.YtencimfeipglaaaDoorW.PrintMore

theorem b62 {c : UInt8} : ((c.toNat : Int) = 62) ↔ c = 62 := byteI 62 (by decide)
theorem b35 {c : UInt8} : ((c.toNat : Int) = 35) ↔ c = 35 := byteI 35 (by decide)
theorem b33 {c : UInt8} : ((c.toNat : Int) = 33) ↔ c = 33 := byteI 33 (by decide)
theorem b43 {c : UInt8} : ((c.toNat : Int) = 43) ↔ c = 43 := byteI 43 (by decide)
theorem b45 {c : UInt8} : ((c.toNat : Int) = 45) ↔ c = 45 := byteI 45 (by decide)
theorem b126 {c : UInt8} : ((c.toNat : Int) = 126) ↔ c = 126 := byteI 126 (by decide)
theorem b38 {c : UInt8} : ((c.toNat : Int) = 38) ↔ c = 38 := byteI 38 (by decide)
theorem b37 {c : UInt8} : ((c.toNat : Int) = 37) ↔ c = 37 := byteI 37 (by decide)
theorem cut_f (r : List UInt8) (h : r.length < 4294967281) : strings_Cut.f (mkB r) ⟨#[126]⟩ = some (mkB (Lib.cut r [126]).1, mkB (Lib.cut r [126]).2.1, (Lib.cut r [126]).2.2) := by
  unfold strings_Cut.f
  rw [if_pos (by rw [mkB_size]; exact h)]
  unfold cutB
  rw [data_mkB]
  rfl
theorem cut_size (r : List UInt8) : (mkB (Lib.cut r [126]).2.1).size ≤ r.length := by
  rw [mkB_size]
  unfold Lib.cut
  split
  · simp
  · simp
set_option maxRecDepth 10000 in
theorem rread_ev (s : ByteArray) (hs : s.size ≤ 1000) (h0 : 0 < s.size) : Ev (fun n => rule_read.f n s) (readL s.data.toList) := by
  obtain ⟨c, r, hL⟩ : ∃ c r, s.data.toList = c :: r := by
    cases h : s.data.toList with
    | nil => have := size_data s; rw [h] at this; simp at this; omega
    | cons c r => exact ⟨c, r, rfl⟩
  have hbt : bt s 0 = (c.toNat : Int) := bt_data (k := 0) (by rw [hL]; rfl)
  have hx : s.extract 1 s.size = mkB r := by rw [ext1, hL]; rfl
  have hr : (mkB r).size ≤ 1000 := by rw [mkB_size]; have := size_data s; rw [hL] at this; simp at this; omega
  have hrl : r.length ≤ 1000 := by rw [mkB_size] at hr; exact hr
  have g1 : (1 : Int) ≤ (s.size : Int) := by omega
  have g0 : (0 : Int) < (s.size : Int) := by omega
  rw [hL]
  simp only [readL]
  by_cases h62 : c = 62
  · rw [if_pos h62]
    refine Ev.congr (fun n => ?_) (Ev.now _)
    unfold rule_read.f; rw [if_pos g1, if_pos g0, hbt, hx, if_pos (b62.2 h62)]
  rw [if_neg h62]
  by_cases h35 : c = 35
  · rw [if_pos h35]
    refine Ev.congr (f := fun n => (mac_Right.f n (mkB r)).bind fun t => some (6, mkB r, false, false, 0, t)) (fun n => ?_) (Ev.bind (right_ev _ hr) (Ev.now _))
    unfold rule_read.f; rw [if_pos g1, if_pos g0, hbt, hx, if_neg (fun h => h62 (b62.1 h)), if_pos (b35.2 h35)]
  rw [if_neg h35]
  by_cases h33 : c = 33
  · rw [if_pos h33]
    refine Ev.congr (f := fun n => (mac_Right.f n (mkB r)).bind fun t => some (7, mkB r, false, false, 0, t)) (fun n => ?_) (Ev.bind (right_ev _ hr) (Ev.now _))
    unfold rule_read.f; rw [if_pos g1, if_pos g0, hbt, hx, if_neg (fun h => h62 (b62.1 h)), if_neg (fun h => h35 (b35.1 h)), if_pos (b33.2 h33)]
  rw [if_neg h33]
  by_cases h43 : c = 43
  · rw [if_pos h43]
    refine Ev.congr (f := fun n => (rule_mask.f n (mkB r)).bind fun b => some (8, (⟨#[]⟩ : ByteArray), false, false, b.1, b.2)) (fun n => ?_) (Ev.bind (mask_ev _ hr) (Ev.now _))
    unfold rule_read.f; rw [if_pos g1, if_pos g0, hbt, hx, if_neg (fun h => h62 (b62.1 h)), if_neg (fun h => h35 (b35.1 h)), if_neg (fun h => h33 (b33.1 h)), if_pos (b43.2 h43)]
  rw [if_neg h43]
  by_cases h45 : c = 45
  · rw [if_pos h45]
    refine Ev.congr (f := fun n => (rule_mask.f n (mkB r)).bind fun b => some (9, (⟨#[]⟩ : ByteArray), false, false, b.1, b.2)) (fun n => ?_) (Ev.bind (mask_ev _ hr) (Ev.now _))
    unfold rule_read.f; rw [if_pos g1, if_pos g0, hbt, hx, if_neg (fun h => h62 (b62.1 h)), if_neg (fun h => h35 (b35.1 h)), if_neg (fun h => h33 (b33.1 h)), if_neg (fun h => h43 (b43.1 h)), if_pos (b45.2 h45)]
  rw [if_neg h45]
  by_cases h126 : c = 126
  · rw [if_pos h126]
    refine Ev.congr (fun n => ?_) (Ev.now _)
    unfold rule_read.f; rw [if_pos g1, if_pos g0, hbt, hx, if_neg (fun h => h62 (b62.1 h)), if_neg (fun h => h35 (b35.1 h)), if_neg (fun h => h33 (b33.1 h)), if_neg (fun h => h43 (b43.1 h)), if_neg (fun h => h45 (b45.1 h)), if_pos (b126.2 h126), word_f _ (by omega), Option.bind_some]
  rw [if_neg h126]
  by_cases h38 : c = 38
  · rw [if_pos h38]
    refine Ev.congr (fun n => ?_) (Ev.now _)
    unfold rule_read.f; rw [if_pos g1, if_pos g0, hbt, hx, if_neg (fun h => h62 (b62.1 h)), if_neg (fun h => h35 (b35.1 h)), if_neg (fun h => h33 (b33.1 h)), if_neg (fun h => h43 (b43.1 h)), if_neg (fun h => h45 (b45.1 h)), if_neg (fun h => h126 (b126.1 h)), if_pos (b38.2 h38), word_f _ (by omega), Option.bind_some]
  rw [if_neg h38]
  by_cases h37 : c = 37
  · rw [if_pos h37]
    refine Ev.congr (fun n => ?_) (Ev.now _)
    unfold rule_read.f; rw [if_pos g1, if_pos g0, hbt, hx, if_neg (fun h => h62 (b62.1 h)), if_neg (fun h => h35 (b35.1 h)), if_neg (fun h => h33 (b33.1 h)), if_neg (fun h => h43 (b43.1 h)), if_neg (fun h => h45 (b45.1 h)), if_neg (fun h => h126 (b126.1 h)), if_neg (fun h => h38 (b38.1 h)), if_pos (b37.2 h37), cut_f r (by omega), Option.bind_some]
    exact (pct_end r).trans (by rw [if_pos (.inl (by have := cut_size r; omega))])
  rw [if_neg h37]
  refine Ev.congr (fun n => ?_) (Ev.now _)
  unfold rule_read.f; rw [if_pos g1, if_pos g0, hbt, hx, if_neg (fun h => h62 (b62.1 h)), if_neg (fun h => h35 (b35.1 h)), if_neg (fun h => h33 (b33.1 h)), if_neg (fun h => h43 (b43.1 h)), if_neg (fun h => h45 (b45.1 h)), if_neg (fun h => h126 (b126.1 h)), if_neg (fun h => h38 (b38.1 h)), if_neg (fun h => h37 (b37.1 h))]
  rfl

/-! The document's plain words. -/
theorem plain_run (s : ByteArray) (ws : List ByteArray) (ks : List Int) (hl : ws.length ≤ 1000) (h : ∀ x ∈ ws, x.toList ≠ s.toList) : ∀ d i : Nat, ws.length - i = d → i ≤ ws.length → Ev (fun n => tipstaffref17_plain.l0 n s ws ks (i : Int)) zeroR := by
  intro d
  induction d with
  | zero =>
    intro i hd hi
    obtain rfl : i = ws.length := by omega
    refine Ev.step (f := fun _ => some zeroR) (fun n => ?_) (Ev.now _)
    simp only [tipstaffref17_plain.l0]
    rw [if_neg (by omega)]
    rfl
  | succ d ih =>
    intro i hd hi
    have hil : i < ws.length := by omega
    refine Ev.step (f := fun n => tipstaffref17_plain.l0 n s ws ks ((i + 1 : Nat) : Int)) (fun n => ?_) (ih (i + 1) (by omega) (by omega))
    simp only [tipstaffref17_plain.l0]
    rw [if_pos (by omega), if_pos (by omega), rdOf_at ws i hil, if_neg (h _ (List.getElem_mem hil)), w64 (by omega) (by omega)]
    rfl
end Go.Proofs.YtencimfeipglaaaDoor.X
