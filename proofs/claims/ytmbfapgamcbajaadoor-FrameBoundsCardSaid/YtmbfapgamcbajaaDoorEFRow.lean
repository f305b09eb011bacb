/- frame.row: what its text computes. -/
import Derived.Test.YtmbfapgamcbajaaDoorEFLib
import Derived.Test.YtmbfapgamcbajaaDoorENum
import Derived.Test.YtmbfapgamcbajaaDoorWMore
import Derived.Test.YtmbfapgamcbajaaDoorKp
import Derived.Deep.QuietTactic
import Derived.BigQuiet
import Derived.Deep.RegionWith
import Derived.Outline
set_option linter.unusedVariables false
set_option linter.unusedSimpArgs false
namespace Go.Proofs.YtmbfapgamcbajaaDoor.X
open Go.RowKit Go.Proofs.YtmbfapgamcbajaaDoorW.PrintWords

theorem infoB : (Tryd.prog.info? 5).map (fun i => (i.zero, i.size, i.bytes)) = some (some (.int .u8 0), 1, 1) := by kernel_rfl

abbrev BC (w : World) (A : Option Addr) (b : List Int) : Prop := Kd.C (Kd.int .u8) w A b.length b

theorem cut_drop (A : Option Addr) (c : Nat) (b : List Int) (j : Int) (h0 : 0 ≤ j) (hj : j ≤ b.length) (hc : b.length ≤ c) :
    ∃ A', (∀ W : World, (Instr.slice 22 (.slice A b.length c) (some (.int .i64 j)) none none).run Tryd.prog W = .ok (.slice A' (b.drop j.toNat).length (c - j.toNat)) W) ∧ (∀ w, BC w A b → BC w A' (b.drop j.toNat)) ∧ (b.drop j.toNat).length ≤ c - j.toNat := by
  obtain ⟨i, hi, _, hs, _⟩ := info_parts infoB
  obtain ⟨A', h1, h2, h3⟩ := print_drop_of (P := Tryd.prog) (Value.int .u8) (0 : Int) 22 5 .i64 Tryd.underlying22 hi hs A c b j h0 hj hc
  exact ⟨A', h1, fun w h => Kd.C_of_reads (h1 := fun _ => rfl) (h2 w (Kd.reads_of_C h)), h3⟩
theorem cut_take (A : Option Addr) (c : Nat) (b : List Int) (j : Int) (h0 : 0 ≤ j) (hj : j ≤ b.length) (hc : b.length ≤ c) :
    (∀ W : World, (Instr.slice 22 (.slice A b.length c) none (some (.int .i64 j)) none).run Tryd.prog W = .ok (.slice A (b.take j.toNat).length c) W) ∧ (∀ w, BC w A b → BC w A (b.take j.toNat)) ∧ (b.take j.toNat).length ≤ c := by
  obtain ⟨i, hi, _, hs, _⟩ := info_parts infoB
  obtain ⟨h1, h2, h3⟩ := print_take_of (P := Tryd.prog) (Value.int .u8) (0 : Int) 22 5 .i64 Tryd.underlying22 hi hs A c b j h0 hj hc
  exact ⟨h1, fun w h => Kd.C_of_reads (h1 := fun _ => rfl) (h2 w (Kd.reads_of_C h)), h3⟩
theorem cut_mid (A : Option Addr) (c : Nat) (b : List Int) (i j : Int) (h0 : 0 ≤ i) (h1 : i ≤ j) (hj : j ≤ b.length) (hc : b.length ≤ c) :
    ∃ A', (∀ W : World, (Instr.slice 22 (.slice A b.length c) (some (.int .i64 i)) (some (.int .i64 j)) none).run Tryd.prog W = .ok (.slice A' ((b.take j.toNat).drop i.toNat).length (c - i.toNat)) W) ∧ (∀ w, BC w A b → BC w A' ((b.take j.toNat).drop i.toNat)) ∧ ((b.take j.toNat).drop i.toNat).length ≤ c - i.toNat := by
  obtain ⟨q, hi, _, hs, _⟩ := info_parts infoB
  obtain ⟨A', h2, h3, h4⟩ := print_mid_of (P := Tryd.prog) (Value.int .u8) (0 : Int) 22 5 .i64 .i64 Tryd.underlying22 hi hs A c b i j h0 h1 hj hc
  exact ⟨A', h2, fun w h => Kd.C_of_reads (h1 := fun _ => rfl) (h3 w (Kd.reads_of_C h)), h4⟩
theorem cut_text (w : World) (A : Option Addr) (c : Nat) (b : List Int) (h : BC w A b) : (convert 22 9 (.slice A b.length c)).run Tryd.prog w = .ok (.string (strOfNums b)) w :=
  Kd.C_string (P := Tryd.prog) (A := A) (c := c) Tryd.underlying22 Tryd.underlying5 Tryd.underlying9 h

/-- Where the first byte 10 is; -1: nowhere. -/
def endOf (xs : List Int) : Int := Go.Lib.indexByte (Go.Lib.bytesOf xs) 10
theorem idx10 (A : Option Addr) (c : Nat) (xs : List Int) (w : World) (h : BC w A xs) (n : Int) (hn : Aside0 (endOf xs = n)) :
    Calls Tryd.prog 27 #[.slice A xs.length c, .int .u8 ((({ data := #[10] } : ByteArray)[0]'(by decide)).toNat : Int)] w fun e w' => e = .returned (.int .i64 n) ∧ w' = w := by
  rw [← hn.out]
  exact bytes_IndexByte.same A c xs _ w h

/-- The scan at g: of the bytes b (at A), it is at a place; whether it is short, whether bad. -/
def ScAt (w : World) (g : Nat) (A : Option Addr) (b : List Int) (c : Nat) (at_ : Int) (sh bd : Bool) : Prop :=
  w.heap[g]? = some (.cells #[.slice A b.length c, .int .i64 at_, .bool sh, .bool bd] 63 (0, 0))

theorem quiet_add_same {P : Program} {f : FuncId} {args : Array Value} {w : World} {a n : Nat} {v : Value}
    (h : Calls P f args (w.drewN (a + n)) fun e w' => e = .returned v ∧ w' = w.drewN (a + n)) :
    Calls P f args (w.drewN (a + n)) fun e w'' => e = .returned v ∧ ∃ m, w'' = w.drewN (a + m) :=
  h.mono fun _ _ ⟨he, hm⟩ => ⟨he, n, hm⟩

/-- Where the line that bytes begin with ends; -1: nowhere in its first 16 bytes. -/
def lineN (s : List Int) : Int := endOf (s.take 16)
def lineT (s : List Int) (n : Int) : ByteArray := strOfNums (s.take (n + 1).toNat)
def numA (s : List Int) (n : Int) : Bool := Lib.hasSuffix (lineT s n).data.toList [13, 10]
def numL (s : List Int) (n : Int) : ByteArray := ⟨(Lib.trimSuffix (lineT s n).data.toList [13, 10]).toArray⟩
def numC (s : List Int) (n : Int) (mark : ByteArray) : Bool := Lib.hasPrefix (numL s n).data.toList mark.data.toList
def numD (s : List Int) (n : Int) (mark : ByteArray) : ByteArray := ⟨(Lib.trimPrefix (numL s n).data.toList mark.data.toList).toArray⟩
def numK (s : List Int) (mark : ByteArray) : Int := (parseB (numD s (lineN s) mark)).1
def numBad (s : List Int) (mark : ByteArray) (low high : Int) : Bool :=
  !(numA s (lineN s) && numC s (lineN s) mark && (parseB (numD s (lineN s) mark)).2 && decide (low ≤ numK s mark) && decide (numK s mark ≤ high))

theorem Kp.set_ {S : Nat → Prop} {w w1 : World} (h : Kp S w w1) (g j : Nat) (v : Value) (hg : S g) : Kp S w (w1.setCell ⟨g, j, none⟩ v) := h.setCell (a := ⟨g, j, none⟩) (.inl hg) v

/-- The scan's new block, the rest as it was. -/
structure ScTo (w w' : World) (g : Nat) (A : Option Addr) (b : List Int) (c : Nat) (at_ : Int) (sh bd : Bool) : Prop where
  at_ : ScAt w' g A b c at_ sh bd
  kp : Kp (· = g) w w'

set_option maxHeartbeats 2000000 in
set_option maxRecDepth 100000 in
theorem number_none (g : Nat) (A : Option Addr) (b : List Int) (c : Nat) (at_ : Nat) (mark : ByteArray) (low high : Int) (w : World) (hb : BC w A b) (hc : b.length ≤ c) (hlen : b.length ≤ 1000000) (hat : at_ ≤ b.length)
    (hs : ScAt w g A b c at_ false false) (hn : lineN (b.drop at_) < 0) (sh : Bool) (hsh : decide (b.length - at_ < 16) = sh) :
    Calls Tryd.prog 36 #[.pointer (some ⟨g, 0, none⟩), .string mark, .int .i64 low, .int .i64 high] w fun e w' => e = .returned (.int .i64 0) ∧ ScTo w w' g A b c at_ sh (!sh) := by
  obtain ⟨A1, cut1, bc1, hc1⟩ := cut_drop A c b at_ (by omega) (by omega) hc
  obtain ⟨s, hs0⟩ : ∃ s, s = b.drop ((at_ : Int)).toNat := ⟨_, rfl⟩
  rw [← hs0] at cut1 bc1 hc1
  have hsl : b.length - at_ = s.length := by rw [hs0, List.length_drop]; omega
  rw [hsl] at hsh
  obtain ⟨n, hn1⟩ : ∃ n, endOf (s.take (min s.length 16)) = n := ⟨_, rfl⟩
  have hn2 : n < 0 := by
    rw [← hn1, hs0]
    simp only [Int.toNat_natCast]
    have : (b.drop at_).take (min (b.drop at_).length 16) = (b.drop at_).take 16 := by
      rw [List.take_eq_take_iff]
      omega
    rw [this]
    exact hn
  have HS := Aside0.mk hs0
  have hs2 : s.length ≤ 1000000 := by rw [HS.out, List.length_drop]; omega
  clear hs0 hn
  obtain ⟨m, hm⟩ : ∃ m, m = min s.length 16 := ⟨_, rfl⟩
  rw [← hm] at hn1
  obtain ⟨cut2, bc2, hc2⟩ := cut_take A1 (c - ((at_ : Int)).toNat) s (m : Int) (by omega) (by omega) hc1
  simp only [Int.toNat_natCast] at cut1 cut2 hc1 hc2 bc2 bc1
  obtain ⟨s2, hs2e⟩ : ∃ s2, s2 = s.take m := ⟨_, rfl⟩
  rw [← hs2e] at cut2 bc2 hc2 hn1
  clear hs2e hsl
  have HN := Aside0.mk hn1
  have BCw := Aside0.mk hb
  have HM := Aside0.mk hm
  have HSC := Aside0.mk hs
  have g0 : w.cell? ⟨g, 0, none⟩ = some (.slice A b.length c) := (pw_cells hs 0).1
  have g1 : w.cell? ⟨g, 1, none⟩ = some (.int .i64 at_) := (pw_cells hs 1).1
  have g2 : w.cell? ⟨g, 2, none⟩ = some (.bool false) := (pw_cells hs 2).1
  have g3 : w.cell? ⟨g, 3, none⟩ = some (.bool false) := (pw_cells hs 3).1
  have f2 : w.frozen? ⟨g, 2, none⟩ = false := (pw_cells hs 2).2
  have f3 : w.frozen? ⟨g, 3, none⟩ = false := (pw_cells hs 3).2
  clear hb hm hs hn1
  have HSH := Aside0.mk hsh
  have hd1 : decide ((s.length : Int) < 16) = sh := by rw [← hsh]; exact decide_eq_decide.2 (by omega)
  have hd2 : decide (16 ≤ (s.length : Int)) = !sh := by
    rw [← hsh]
    by_cases h : s.length < 16
    · rw [decide_eq_true h, decide_eq_false (by omega)]; rfl
    · rw [decide_eq_false h, decide_eq_true (by omega)]; rfl
  clear hsh
  go_enter Tryd.func36, Tryd.ntmps36
  go_wp2
  go_quiet (fail)
  go_wp2
  have hmin : min (s.length : Int) 16 = (m : Int) := by have := HM.out; omega
  go_quiet ((go_at_call 27; exact quiet_add_same (idx10 A1 (c - at_) s2 _ (Kd.C_drewN (bc2 _ (bc1 _ BCw.out)) _) n HN)))
  clear hmin
  go_wp2
  go_ret
  refine ⟨rfl, ?_, ?_⟩
  · exact blk_drewN (by simpa using blk_set (blk_set HSC.out 2 (.bool sh)) 3 (.bool (!sh))) _
  · exact Kp.set_ (S := (· = g)) (Kp.set_ (S := (· = g)) ((Kp.refl _ _).drewN _) g 2 _ rfl) g 3 _ rfl

theorem strNums_size (l : List Int) : (strOfNums l).size = l.length := by
  unfold strOfNums
  show (Array.size _) = _
  simp

set_option maxHeartbeats 4000000 in
set_option maxRecDepth 100000 in
theorem number_some (g : Nat) (A : Option Addr) (b : List Int) (c : Nat) (at_ : Nat) (mark : ByteArray) (low high : Int) (w : World) (hLd : Ld w) (hb : BC w A b) (hc : b.length ≤ c) (hlen : b.length ≤ 1000000) (hat : at_ ≤ b.length)
    (hs : ScAt w g A b c at_ false false) (hn0 : 0 ≤ lineN (b.drop at_)) (hn9 : lineN (b.drop at_) < (b.drop at_).length) (bd : Bool) (hbd : numBad (b.drop at_) mark low high = bd) :
    Calls Tryd.prog 36 #[.pointer (some ⟨g, 0, none⟩), .string mark, .int .i64 low, .int .i64 high] w fun e w' => e = .returned (.int .i64 (numK (b.drop at_) mark)) ∧ ScTo w w' g A b c (at_ + lineN (b.drop at_) + 1) false bd := by
  obtain ⟨A1, cut1, bc1, hc1⟩ := cut_drop A c b at_ (by omega) (by omega) hc
  obtain ⟨s, hs0⟩ : ∃ s, s = b.drop ((at_ : Int)).toNat := ⟨_, rfl⟩
  rw [← hs0] at cut1 bc1 hc1
  simp only [Int.toNat_natCast] at hs0
  rw [← hs0] at hn0 hn9 hbd ⊢
  obtain ⟨n, hn1⟩ : ∃ n, lineN s = n := ⟨_, rfl⟩
  have hK : numK s mark = (parseB (numD s n mark)).1 := by rw [← hn1]; rfl
  rw [hK]
  unfold numBad at hbd
  rw [hK] at hbd
  rw [hn1] at hn0 hn9 hbd ⊢
  have hn2 : endOf (s.take (min s.length 16)) = n := by
    have : s.take (min s.length 16) = s.take 16 := by
      rw [List.take_eq_take_iff]
      omega
    rw [this]
    exact hn1
  have hs2 : s.length ≤ 1000000 := by rw [hs0, List.length_drop]; omega
  clear hs0 hn1 hK
  obtain ⟨m, hm⟩ : ∃ m, m = min s.length 16 := ⟨_, rfl⟩
  rw [← hm] at hn2
  obtain ⟨cut2, bc2, hc2⟩ := cut_take A1 (c - ((at_ : Int)).toNat) s (m : Int) (by omega) (by omega) hc1
  obtain ⟨cut3, bc3, hc3⟩ := cut_take A1 (c - ((at_ : Int)).toNat) s (n + 1) (by omega) (by omega) hc1
  simp only [Int.toNat_natCast] at cut1 cut2 cut3 hc1 hc2 hc3 bc2 bc1
  obtain ⟨s2, hs2e⟩ : ∃ s2, s2 = s.take m := ⟨_, rfl⟩
  rw [← hs2e] at cut2 bc2 hc2 hn2
  clear hs2e
  have hszT : (lineT s n).size ≤ 1000000 := by unfold lineT; rw [strNums_size, List.length_take]; omega
  have hszD : (numD s n mark).size ≤ 1000000 := by
    have e1 : (numL s n).data.toList.length ≤ 1000000 := by
      unfold numL Lib.trimSuffix
      have : (lineT s n).data.toList.length ≤ 1000000 := by rw [data_length]; exact hszT
      split <;> simp <;> simp at this <;> omega
    unfold numD Lib.trimPrefix
    show Array.size _ ≤ _
    split <;> simp <;> simp at e1 <;> omega
  obtain ⟨s3, hs3e⟩ : ∃ s3, s3 = s.take (n + 1).toNat := ⟨_, rfl⟩
  obtain ⟨T, hT⟩ : ∃ T, T = lineT s n := ⟨_, rfl⟩
  have hT3 : strOfNums s3 = T := by rw [hs3e, hT]; rfl
  rw [← hs3e] at cut3 bc3 hc3
  rw [← hT] at hszT
  have hcv := fun W (h : BC W A1 s3) => (cut_text W A1 (c - at_) s3 h)
  rw [hT3] at hcv
  obtain ⟨L, hL⟩ : ∃ L, L = numL s n := ⟨_, rfl⟩
  have hL2 : (⟨(Lib.trimSuffix T.data.toList [13, 10]).toArray⟩ : ByteArray) = L := by rw [hL, hT]; rfl
  obtain ⟨D, hD⟩ : ∃ D, D = numD s n mark := ⟨_, rfl⟩
  have hD2 : (⟨(Lib.trimPrefix L.data.toList mark.data.toList).toArray⟩ : ByteArray) = D := by rw [hD, hL]; rfl
  obtain ⟨bA, hbA⟩ : ∃ x, numA s n = x := ⟨_, rfl⟩
  have hbA2 : Lib.hasSuffix T.data.toList [13, 10] = bA := by rw [← hbA, hT]; rfl
  obtain ⟨bC, hbC⟩ : ∃ x, numC s n mark = x := ⟨_, rfl⟩
  have hbC2 : Lib.hasPrefix L.data.toList mark.data.toList = bC := by rw [← hbC, hL]; rfl
  rw [hbA, hbC, ← hD] at hbd
  rw [← hD] at hszD ⊢
  obtain ⟨k, bO, hP⟩ : ∃ k bO, parseB D = (k, bO) := ⟨_, _, rfl⟩
  rw [hP] at hbd ⊢
  simp only at hbd ⊢
  have HP := Aside0.mk (show num_Parse.f D = some (k, bO) by rw [← hP]; unfold num_Parse.f; rw [if_pos (by omega)])
  have HSf := Aside0.mk (fun W => Tryd.strings_CutSuffix T ⟨#[13, 10]⟩ W (by omega))
  have HCf := Aside0.mk (fun W => Tryd.strings_CutPrefix L mark W)
  simp only [hL2, hbA2, hD2, hbC2] at HSf HCf
  clear hs3e hT hT3 hL hL2 hD hD2 hbA hbA2 hbC hbC2 hP hszT hszD
  have HCV := Aside0.mk hcv
  have HN := Aside0.mk hn2
  have BCw := Aside0.mk hb
  have HM := Aside0.mk hm
  have HSC := Aside0.mk hs
  have HLd := Aside0.mk hLd
  have g0 : w.cell? ⟨g, 0, none⟩ = some (.slice A b.length c) := (pw_cells hs 0).1
  have g1 : w.cell? ⟨g, 1, none⟩ = some (.int .i64 at_) := (pw_cells hs 1).1
  clear hb hm hs hn2 hcv hLd
  have HBD := Aside0.mk hbd
  clear hbd
  go_enter Tryd.func36, Tryd.ntmps36
  go_wp2
  go_quiet (fail)
  go_wp2
  have hmin : min (s.length : Int) 16 = (m : Int) := by have := HM.out; omega
  go_quiet ((go_at_call 27; exact quiet_add_same (idx10 A1 (c - at_) s2 _ (Kd.C_drewN (bc2 _ (bc1 _ BCw.out)) _) n HN)))
  clear hmin
  have hcv1 := fun k => HCV.out _ (Kd.C_drewN (bc3 _ (bc1 _ BCw.out)) k)
  go_wp2_with (first | (go_at_call 45; refine (HSf.out _).mono ?_; rintro e w' ⟨rfl, rfl⟩) | (go_at_call 46; refine (HCf.out _).mono ?_; rintro e w' ⟨rfl, rfl⟩) | (go_at_call 47; refine (num_Parse.calls D k bO _ (HLd.out.drewN _) HP.out).mono ?_; rintro e w1 ⟨rfl, hb1⟩; have HB1 := Aside0.mk hb1; have hs1 := blk_below (blk_drewN HSC.out _) hb1; clear hb1; have q1 : w1.cell? ⟨g, 1, none⟩ = some (.int .i64 at_) := (pw_cells hs1 1).1; have q3 : w1.cell? ⟨g, 3, none⟩ = some (.bool false) := (pw_cells hs1 3).1; have z1 : w1.frozen? ⟨g, 1, none⟩ = false := (pw_cells hs1 1).2; have z3 : w1.frozen? ⟨g, 3, none⟩ = false := (pw_cells hs1 3).2; have HS1 := Aside0.mk hs1; clear hs1))
  all_goals go_ret
  all_goals refine ⟨rfl, ⟨?_, ?_⟩⟩
  all_goals first
    | exact Kp.set_ (S := (· = g)) (Kp.set_ (S := (· = g)) (((Kp.refl _ _).drewN _).trans (Kp.of_below HB1.out)) g 3 _ rfl) g 1 _ rfl
    | (refine (blk_set (blk_set HS1.out 3 _) 1 _).trans ?_
       clear cut1 cut2 cut3 bc1 bc2 bc3 g0 g1 q1 q3 z1 z3 hcv1
       have hB := HBD.out
       rw [← hB]
       clear hB
       simp [Int.add_assoc]
       try rw [Bool.eq_iff_iff]
       simp [*]
       try omega)

set_option maxHeartbeats 2000000 in
set_option maxRecDepth 100000 in
theorem word_short (g : Nat) (A : Option Addr) (b : List Int) (c : Nat) (at_ n : Nat) (w : World) (hb : BC w A b) (hc : b.length ≤ c) (hlen : b.length ≤ 1000000) (hat : at_ ≤ b.length) (hn : n ≤ 1000000)
    (hs : ScAt w g A b c at_ false false) (hsh : b.length < at_ + n + 2) :
    Calls Tryd.prog 37 #[.pointer (some ⟨g, 0, none⟩), .int .i64 n] w fun e w' => e = .returned (.string ⟨#[]⟩) ∧ ScTo w w' g A b c at_ true false := by
  obtain ⟨A1, cut1, bc1, hc1⟩ := cut_drop A c b at_ (by omega) (by omega) hc
  obtain ⟨s, hs0⟩ : ∃ s, s = b.drop ((at_ : Int)).toNat := ⟨_, rfl⟩
  rw [← hs0] at cut1 bc1 hc1
  have hsl : s.length + at_ = b.length := by rw [hs0, List.length_drop]; omega
  clear hs0
  have hlt : (s.length : Int) < n + 2 := by omega
  clear hsl hsh
  have HSC := Aside0.mk hs
  have g0 : w.cell? ⟨g, 0, none⟩ = some (.slice A b.length c) := (pw_cells hs 0).1
  have g1 : w.cell? ⟨g, 1, none⟩ = some (.int .i64 at_) := (pw_cells hs 1).1
  have g2 : w.cell? ⟨g, 2, none⟩ = some (.bool false) := (pw_cells hs 2).1
  have f2 : w.frozen? ⟨g, 2, none⟩ = false := (pw_cells hs 2).2
  clear hb hs
  go_enter Tryd.func37, Tryd.ntmps37
  go_wp2
  go_quiet (fail)
  go_wp2
  go_ret
  refine ⟨rfl, ?_, Kp.set_ (S := (· = g)) ((Kp.refl _ _).drewN _) g 2 _ rfl⟩
  exact (blk_set (blk_drewN HSC.out _) 2 _).trans (by simp)

def wordBad (s : List Int) (n : Nat) : Bool := (strOfNums ((s.take (n + 2)).drop n)).toList != [13, 10]

set_option maxHeartbeats 2000000 in
set_option maxRecDepth 100000 in
theorem word_some (w0 : World) (g : Nat) (A : Option Addr) (b : List Int) (c : Nat) (at_ n : Nat) (w : World) (hb : BC w0 A b) (hB : Below w0.heap.size w0 w) (hg : w0.heap.size ≤ g) (hc : b.length ≤ c) (hlen : b.length ≤ 1000000) (hat : at_ ≤ b.length) (hn : n ≤ 1000000)
    (hs : ScAt w g A b c at_ false false) (hsh : at_ + n + 2 ≤ b.length) (bd : Bool) (hbd : wordBad (b.drop at_) n = bd) :
    Calls Tryd.prog 37 #[.pointer (some ⟨g, 0, none⟩), .int .i64 n] w fun e w' => e = .returned (.string (strOfNums ((b.drop at_).take n))) ∧ ScTo w w' g A b c (at_ + n + 2) false bd := by
  obtain ⟨A1, cut1, bc1, hc1⟩ := cut_drop A c b at_ (by omega) (by omega) hc
  obtain ⟨s, hs0⟩ : ∃ s, s = b.drop ((at_ : Int)).toNat := ⟨_, rfl⟩
  rw [← hs0] at cut1 bc1 hc1
  simp only [Int.toNat_natCast] at hs0 cut1 hc1
  rw [← hs0] at hbd ⊢
  have hsl : s.length + at_ = b.length := by rw [hs0, List.length_drop]; omega
  clear hs0
  have hle : (n : Int) + 2 ≤ s.length := by omega
  obtain ⟨A2, cut2, bc2, hc2⟩ := cut_mid A1 (c - at_) s n (n + 2) (by omega) (by omega) (by omega) hc1
  obtain ⟨cut3, bc3, hc3⟩ := cut_take A1 (c - at_) s n (by omega) (by omega) hc1
  clear hsl hsh
  unfold wordBad at hbd
  have e2 : ((n : Int) + 2).toNat = n + 2 := by omega
  rw [e2] at cut2 bc2 hc2
  simp only [Int.toNat_natCast] at cut2 bc2 hc2 cut3 bc3 hc3
  obtain ⟨s2, hs2⟩ : ∃ s2, s2 = (s.take (n + 2)).drop n := ⟨_, rfl⟩
  obtain ⟨s3, hs3⟩ : ∃ s3, s3 = s.take n := ⟨_, rfl⟩
  rw [← hs2] at cut2 bc2 hc2 hbd
  rw [← hs3] at cut3 bc3 hc3 ⊢
  clear hs2 hs3 e2
  have hbd2 := hbd
  clear hbd
  have hsW : ∀ (k : Nat) (v : Value), Below w0.heap.size w0 ((w.drewN k).setCell ⟨g, 1, none⟩ v) := fun k v => (pw_below_drewN hB k).setCell (p := ⟨g, 1, none⟩) hg v
  have hsW3 : ∀ (k : Nat) (v v3 : Value), Below w0.heap.size w0 (((w.drewN k).setCell ⟨g, 1, none⟩ v).setCell ⟨g, 3, none⟩ v3) := fun k v v3 => (hsW k v).setCell (p := ⟨g, 3, none⟩) hg v3
  have hcv2 := fun k v => cut_text _ A2 (c - at_ - n) s2 (bc2 _ (bc1 _ (Kd.C_below hb (hsW k v))))
  have hcv3 := fun k v v3 => cut_text _ A1 (c - at_) s3 (bc3 _ (bc1 _ (Kd.C_below hb (hsW3 k v v3))))
  clear hsW hsW3
  obtain ⟨T2, hT2⟩ : ∃ T2, T2 = strOfNums s2 := ⟨_, rfl⟩
  obtain ⟨T3, hT3⟩ : ∃ T3, T3 = strOfNums s3 := ⟨_, rfl⟩
  rw [← hT2] at hbd2
  simp only [← hT2] at hcv2
  simp only [← hT3] at hcv3 ⊢
  clear hT2 hT3
  have HSC := Aside0.mk hs
  clear hB hg
  have g0 : w.cell? ⟨g, 0, none⟩ = some (.slice A b.length c) := (pw_cells hs 0).1
  have g1 : w.cell? ⟨g, 1, none⟩ = some (.int .i64 at_) := (pw_cells hs 1).1
  have g3 : w.cell? ⟨g, 3, none⟩ = some (.bool false) := (pw_cells hs 3).1
  have f1 : w.frozen? ⟨g, 1, none⟩ = false := (pw_cells hs 1).2
  have f3 : w.frozen? ⟨g, 3, none⟩ = false := (pw_cells hs 3).2
  clear hb hs
  go_enter Tryd.func37, Tryd.ntmps37
  go_wp2
  go_quiet (fail)
  go_wp2
  go_ret
  refine ⟨rfl, ?_, Kp.set_ (S := (· = g)) (Kp.set_ (S := (· = g)) ((Kp.refl _ _).drewN _) g 1 _ rfl) g 3 _ rfl⟩
  exact (blk_set (blk_set (blk_drewN HSC.out _) 1 _) 3 _).trans (by simp [Int.add_assoc]; rw [← hbd2]; simp [bne])
end Go.Proofs.YtmbfapgamcbajaaDoor.X
