/- frame.Next: what its text computes. -/
import Derived.Test.YtmbfapgamcbajaaDoorELd
import Derived.Test.YtmbfapgamcbajaaDoorWWords
import Derived.Lib.BytesEntry
import Derived.Laws.Externs
import Derived.WalkKit
import Derived.Test.YtmbfapgamcbajaaDoorENum
import Derived.Test.YtmbfapgamcbajaaDoorWMore
import Derived.Test.YtmbfapgamcbajaaDoorKp
import Derived.Deep.QuietTactic
import Derived.BigQuiet
import Derived.Deep.RegionWith
import Derived.Outline
import Derived.WalkMore
import Derived.LoopTactic
import Derived.Deep.LoopGhost
import Derived.Lib.SlBytesConst
set_option linter.unusedVariables false
set_option linter.unusedSimpArgs false
namespace Go.Proofs.YtmbfapgamcbajaaDoor.X
open Go.RowKit Go.Proofs.YtmbfapgamcbajaaDoorW.PrintWords

def bytes_IndexByte.f (l0 : List Int) (a1 : Int) : Option Int := some (Go.Lib.indexByte (Go.Lib.bytesOf l0) a1.toNat.toUInt8)

set_option maxHeartbeats 1000000 in
set_option maxRecDepth 100000 in
theorem indexByte_none (c0 : Nat) (a1 : Int) (w : World) :
    Calls Tryd.prog 27 #[.slice none 0 c0, .int .u8 a1] w fun e w' => e = .returned (.int .i64 (-1)) ∧ w' = w := by
  go_enter Tryd.func27, Tryd.ntmps27
  go_wp2
  rw [run_callFunc_extern Tryd.func38 (by kernel_rfl) (by kernel_rfl) (by kernel_rfl) (e := Extern.BytealgIndexByte.indexByte) (by kernel_rfl), Lib.run_indexByteNil w 0 c0 a1]
  simp only [Result.andThen]
  rw [Oper.upon_value]
  go_wp2
  go_ret
  exact ⟨rfl, rfl⟩

theorem bytes_IndexByte.same (A0 : Option Addr) (c0 : Nat) (l0 : List Int) (a1 : Int) (w : World) (hr0 : Kd.C (Kd.int .u8) w A0 l0.length l0) :
    Calls Tryd.prog 27 #[.slice A0 l0.length c0, .int .u8 a1] w fun e w' => e = .returned (.int .i64 (Go.Lib.indexByte (Go.Lib.bytesOf l0) a1.toNat.toUInt8)) ∧ w' = w := by
  cases A0 with
  | none =>
    have h0 : l0 = [] := by
      cases l0 with
      | nil => rfl
      | cons x l =>
        obtain ⟨ad, e, _⟩ := (Kd.reads_of_C (d := (0 : Int)) hr0).2.2 (by simp)
        cases e
    subst h0
    exact indexByte_none c0 a1 w
  | some ad =>
    refine Tryd.bytes_IndexByte_at ad l0.length c0 l0 a1 w rfl fun i hi => ?_
    obtain ⟨ad', e, hc⟩ := (Kd.reads_of_C (d := (0 : Int)) hr0).2.2 (by omega)
    cases e
    exact hc i hi

theorem bytes_IndexByte.calls (A0 : Option Addr) (c0 : Nat) (l0 : List Int) (a1 : Int) (r : Int) (w : World) (hr0 : Kd.C (Kd.int .u8) w A0 l0.length l0) (hc0 : l0.length ≤ c0) (h : bytes_IndexByte.f l0 a1 = some r) :
    Calls Tryd.prog 27 #[.slice A0 l0.length c0, .int .u8 a1] w fun e w' => e = .returned (.int .i64 r) ∧ Drawn0 w w' := by
  obtain rfl := Option.some.inj h
  refine (bytes_IndexByte.same A0 c0 l0 a1 w hr0).mono ?_
  rintro e w' ⟨rfl, rfl⟩
  exact ⟨rfl, Drawn0.refl _⟩

def strings_Split.f (a0 a1 : ByteArray) : Option (List ByteArray) := if a0.size < 4294967281 ∧ a1.size = 1 then some (Go.Lib.splitB a1 0 (Go.Lib.countB a0 a1) a0) else none

theorem strings_Split.calls (a0 a1 : ByteArray) (r : List ByteArray) (w : World) (hLd : Ld w) (h : strings_Split.f a0 a1 = some r) :
    Calls Tryd.prog 28 #[.string a0, .string a1] w fun e w' => ∃ v0_ : Value, e = .returned v0_ ∧ Kd.R Kd.string 9 w' w.heap.size (fun _ => True) v0_ r ∧ Below w.heap.size w w' := by
  unfold strings_Split.f at h
  split at h
  · rename_i hh
    obtain rfl := Option.some.inj h
    obtain ⟨m, hm⟩ := hLd.mx
    refine (Tryd.strings_Split a0 a1 m w hh.1 hm (by omega)).mono ?_
    rintro e w' ⟨rfl, rfl⟩
    have hlen := Lib.splitB_all a1 (by omega) 0 _ a0 rfl
    refine ⟨_, rfl, ?_, below_alloc (Below.refl _ _) _⟩
    have hle := Lib.countB_le a1 (by omega) a0.size a0 (Nat.le_refl _)
    rw [← hlen]
    exact Kd.R_of_own (own_lit_of (enc := Value.string) w w.heap.size 9 _ (Nat.le_refl _) (by rw [hlen]; omega)) (fun _ _ => trivial)
  · cases h
end Go.Proofs.YtmbfapgamcbajaaDoor.X
namespace Go.Proofs.YtmbfapgamcbajaaDoor.X
open Go.RowKit Go.Proofs.YtmbfapgamcbajaaDoorW.PrintWords

theorem infoB : (Tryd.prog.info? 5).map (fun i => (i.zero, i.size, i.bytes)) = some (some (.int .u8 0), 1, 1) := by kernel_rfl

abbrev BC (w : World) (A : Option Addr) (b : List Int) : Prop := Kd.C (Kd.int .u8) w A b.length b

theorem cut_drop (A : Option Addr) (c : Nat) (b : List Int) (j : Int) (h0 : 0 ≤ j) (hj : j ≤ b.length) (hc : b.length ≤ c) :
    ∃ A', (∀ W : World, (Instr.slice 22 (.slice A b.length c) (some (.int .i64 j)) none none).run Tryd.prog W = .ok (.slice A' (b.drop j.toNat).length (c - j.toNat)) W) ∧ (∀ w, BC w A b → BC w A' (b.drop j.toNat)) ∧ (b.drop j.toNat).length ≤ c - j.toNat := by
  obtain ⟨i, hi, _, hs, _⟩ := info_parts infoB
  obtain ⟨A', h1, h2, h3⟩ := print_drop_of (P := Tryd.prog) (Value.int .u8) (0 : Int) 22 5 .i64 Tryd.underlying22 hi hs A c b j h0 hj hc
  exact ⟨A', h1, fun w h => Kd.C_of_reads (h1 := fun _ => rfl) (h2 w (Kd.reads_of_C h)), h3⟩
theorem cut_take (A : Option Addr) (c : Nat) (b : List Int) (j : Int) (h0 : 0 ≤ j) (hj : j ≤ b.length) (hc : b.length ≤ c) :
    (∀ W : World, (Instr.slice 22 (.slice A b.length c) none (some (.int .i64 j)) none).run Tryd.prog W = .ok (.slice A (b.take j.toNat).length c) W) ∧ (∀ w, BC w A b → BC w A (b.take j.toNat)) ∧ (b.take j.toNat).length ≤ c := by
  obtain ⟨i, hi, _, hs, _⟩ := info_parts infoB
  obtain ⟨h1, h2, h3⟩ := print_take_of (P := Tryd.prog) (Value.int .u8) (0 : Int) 22 5 .i64 Tryd.underlying22 hi hs A c b j h0 hj hc
  exact ⟨h1, fun w h => Kd.C_of_reads (h1 := fun _ => rfl) (h2 w (Kd.reads_of_C h)), h3⟩
theorem cut_mid (A : Option Addr) (c : Nat) (b : List Int) (i j : Int) (h0 : 0 ≤ i) (h1 : i ≤ j) (hj : j ≤ b.length) (hc : b.length ≤ c) :
    ∃ A', (∀ W : World, (Instr.slice 22 (.slice A b.length c) (some (.int .i64 i)) (some (.int .i64 j)) none).run Tryd.prog W = .ok (.slice A' ((b.take j.toNat).drop i.toNat).length (c - i.toNat)) W) ∧ (∀ w, BC w A b → BC w A' ((b.take j.toNat).drop i.toNat)) ∧ ((b.take j.toNat).drop i.toNat).length ≤ c - i.toNat := by
  obtain ⟨q, hi, _, hs, _⟩ := info_parts infoB
  obtain ⟨A', h2, h3, h4⟩ := print_mid_of (P := Tryd.prog) (Value.int .u8) (0 : Int) 22 5 .i64 .i64 Tryd.underlying22 hi hs A c b i j h0 h1 hj hc
  exact ⟨A', h2, fun w h => Kd.C_of_reads (h1 := fun _ => rfl) (h3 w (Kd.reads_of_C h)), h4⟩
theorem cut_text (w : World) (A : Option Addr) (c : Nat) (b : List Int) (h : BC w A b) : (convert 22 9 (.slice A b.length c)).run Tryd.prog w = .ok (.string (strOfNums b)) w :=
  Kd.C_string (P := Tryd.prog) (A := A) (c := c) Tryd.underlying22 Tryd.underlying5 Tryd.underlying9 h

/-- Where the first byte 10 is; -1: nowhere. -/
def endOf (xs : List Int) : Int := Go.Lib.indexByte (Go.Lib.bytesOf xs) 10
theorem idx10 (A : Option Addr) (c : Nat) (xs : List Int) (w : World) (h : BC w A xs) (n : Int) (hn : Aside0 (endOf xs = n)) :
    Calls Tryd.prog 27 #[.slice A xs.length c, .int .u8 ((({ data := #[10] } : ByteArray)[0]'(by decide)).toNat : Int)] w fun e w' => e = .returned (.int .i64 n) ∧ w' = w := by
  rw [← hn.out]
  exact bytes_IndexByte.same A c xs _ w h

/-- The scan at g: of the bytes b (at A), it is at a place; whether it is short, whether bad. -/
def ScAt (w : World) (g : Nat) (A : Option Addr) (b : List Int) (c : Nat) (at_ : Int) (sh bd : Bool) : Prop :=
  w.heap[g]? = some (.cells #[.slice A b.length c, .int .i64 at_, .bool sh, .bool bd] 63 (0, 0))

theorem quiet_add_same {P : Program} {f : FuncId} {args : Array Value} {w : World} {a n : Nat} {v : Value}
    (h : Calls P f args (w.drewN (a + n)) fun e w' => e = .returned v ∧ w' = w.drewN (a + n)) :
    Calls P f args (w.drewN (a + n)) fun e w'' => e = .returned v ∧ ∃ m, w'' = w.drewN (a + m) :=
  h.mono fun _ _ ⟨he, hm⟩ => ⟨he, n, hm⟩

/-- Where the line that bytes begin with ends; -1: nowhere in its first 16 bytes. -/
def lineN (s : List Int) : Int := endOf (s.take 16)
def lineT (s : List Int) (n : Int) : ByteArray := strOfNums (s.take (n + 1).toNat)
def numA (s : List Int) (n : Int) : Bool := Lib.hasSuffix (lineT s n).data.toList [13, 10]
def numL (s : List Int) (n : Int) : ByteArray := ⟨(Lib.trimSuffix (lineT s n).data.toList [13, 10]).toArray⟩
def numC (s : List Int) (n : Int) (mark : ByteArray) : Bool := Lib.hasPrefix (numL s n).data.toList mark.data.toList
def numD (s : List Int) (n : Int) (mark : ByteArray) : ByteArray := ⟨(Lib.trimPrefix (numL s n).data.toList mark.data.toList).toArray⟩
def numK (s : List Int) (mark : ByteArray) : Int := (parseB (numD s (lineN s) mark)).1
def numBad (s : List Int) (mark : ByteArray) (low high : Int) : Bool :=
  !(numA s (lineN s) && numC s (lineN s) mark && (parseB (numD s (lineN s) mark)).2 && decide (low ≤ numK s mark) && decide (numK s mark ≤ high))

theorem Kp.set_ {S : Nat → Prop} {w w1 : World} (h : Kp S w w1) (g j : Nat) (v : Value) (hg : S g) : Kp S w (w1.setCell ⟨g, j, none⟩ v) := h.setCell (a := ⟨g, j, none⟩) (.inl hg) v

/-- The scan's new block, the rest as it was. -/
structure ScTo (w w' : World) (g : Nat) (A : Option Addr) (b : List Int) (c : Nat) (at_ : Int) (sh bd : Bool) : Prop where
  at_ : ScAt w' g A b c at_ sh bd
  kp : Kp (· = g) w w'

set_option maxHeartbeats 2000000 in
set_option maxRecDepth 100000 in
theorem number_none (g : Nat) (A : Option Addr) (b : List Int) (c : Nat) (at_ : Nat) (mark : ByteArray) (low high : Int) (w : World) (hb : BC w A b) (hc : b.length ≤ c) (hlen : b.length ≤ 1000000) (hat : at_ ≤ b.length)
    (hs : ScAt w g A b c at_ false false) (hn : lineN (b.drop at_) < 0) (sh : Bool) (hsh : decide (b.length - at_ < 16) = sh) :
    Calls Tryd.prog 36 #[.pointer (some ⟨g, 0, none⟩), .string mark, .int .i64 low, .int .i64 high] w fun e w' => e = .returned (.int .i64 0) ∧ ScTo w w' g A b c at_ sh (!sh) := by
  obtain ⟨A1, cut1, bc1, hc1⟩ := cut_drop A c b at_ (by omega) (by omega) hc
  obtain ⟨s, hs0⟩ : ∃ s, s = b.drop ((at_ : Int)).toNat := ⟨_, rfl⟩
  rw [← hs0] at cut1 bc1 hc1
  have hsl : b.length - at_ = s.length := by rw [hs0, List.length_drop]; omega
  rw [hsl] at hsh
  obtain ⟨n, hn1⟩ : ∃ n, endOf (s.take (min s.length 16)) = n := ⟨_, rfl⟩
  have hn2 : n < 0 := by
    rw [← hn1, hs0]
    simp only [Int.toNat_natCast]
    have : (b.drop at_).take (min (b.drop at_).length 16) = (b.drop at_).take 16 := by
      rw [List.take_eq_take_iff]
      omega
    rw [this]
    exact hn
  have HS := Aside0.mk hs0
  have hs2 : s.length ≤ 1000000 := by rw [HS.out, List.length_drop]; omega
  clear hs0 hn
  obtain ⟨m, hm⟩ : ∃ m, m = min s.length 16 := ⟨_, rfl⟩
  rw [← hm] at hn1
  obtain ⟨cut2, bc2, hc2⟩ := cut_take A1 (c - ((at_ : Int)).toNat) s (m : Int) (by omega) (by omega) hc1
  simp only [Int.toNat_natCast] at cut1 cut2 hc1 hc2 bc2 bc1
  obtain ⟨s2, hs2e⟩ : ∃ s2, s2 = s.take m := ⟨_, rfl⟩
  rw [← hs2e] at cut2 bc2 hc2 hn1
  clear hs2e hsl
  have HN := Aside0.mk hn1
  have BCw := Aside0.mk hb
  have HM := Aside0.mk hm
  have HSC := Aside0.mk hs
  have g0 : w.cell? ⟨g, 0, none⟩ = some (.slice A b.length c) := (pw_cells hs 0).1
  have g1 : w.cell? ⟨g, 1, none⟩ = some (.int .i64 at_) := (pw_cells hs 1).1
  have g2 : w.cell? ⟨g, 2, none⟩ = some (.bool false) := (pw_cells hs 2).1
  have g3 : w.cell? ⟨g, 3, none⟩ = some (.bool false) := (pw_cells hs 3).1
  have f2 : w.frozen? ⟨g, 2, none⟩ = false := (pw_cells hs 2).2
  have f3 : w.frozen? ⟨g, 3, none⟩ = false := (pw_cells hs 3).2
  clear hb hm hs hn1
  have HSH := Aside0.mk hsh
  have hd1 : decide ((s.length : Int) < 16) = sh := by rw [← hsh]; exact decide_eq_decide.2 (by omega)
  have hd2 : decide (16 ≤ (s.length : Int)) = !sh := by
    rw [← hsh]
    by_cases h : s.length < 16
    · rw [decide_eq_true h, decide_eq_false (by omega)]; rfl
    · rw [decide_eq_false h, decide_eq_true (by omega)]; rfl
  clear hsh
  go_enter Tryd.func36, Tryd.ntmps36
  go_wp2
  go_quiet (fail)
  go_wp2
  have hmin : min (s.length : Int) 16 = (m : Int) := by have := HM.out; omega
  go_quiet ((go_at_call 27; exact quiet_add_same (idx10 A1 (c - at_) s2 _ (Kd.C_drewN (bc2 _ (bc1 _ BCw.out)) _) n HN)))
  clear hmin
  go_wp2
  go_ret
  refine ⟨rfl, ?_, ?_⟩
  · exact blk_drewN (by simpa using blk_set (blk_set HSC.out 2 (.bool sh)) 3 (.bool (!sh))) _
  · exact Kp.set_ (S := (· = g)) (Kp.set_ (S := (· = g)) ((Kp.refl _ _).drewN _) g 2 _ rfl) g 3 _ rfl

theorem strNums_size (l : List Int) : (strOfNums l).size = l.length := by
  unfold strOfNums
  show (Array.size _) = _
  simp

set_option maxHeartbeats 4000000 in
set_option maxRecDepth 100000 in
theorem number_some (g : Nat) (A : Option Addr) (b : List Int) (c : Nat) (at_ : Nat) (mark : ByteArray) (low high : Int) (w : World) (hLd : Ld w) (hb : BC w A b) (hc : b.length ≤ c) (hlen : b.length ≤ 1000000) (hat : at_ ≤ b.length)
    (hs : ScAt w g A b c at_ false false) (hn0 : 0 ≤ lineN (b.drop at_)) (hn9 : lineN (b.drop at_) < (b.drop at_).length) (bd : Bool) (hbd : numBad (b.drop at_) mark low high = bd) :
    Calls Tryd.prog 36 #[.pointer (some ⟨g, 0, none⟩), .string mark, .int .i64 low, .int .i64 high] w fun e w' => e = .returned (.int .i64 (numK (b.drop at_) mark)) ∧ ScTo w w' g A b c (at_ + lineN (b.drop at_) + 1) false bd := by
  obtain ⟨A1, cut1, bc1, hc1⟩ := cut_drop A c b at_ (by omega) (by omega) hc
  obtain ⟨s, hs0⟩ : ∃ s, s = b.drop ((at_ : Int)).toNat := ⟨_, rfl⟩
  rw [← hs0] at cut1 bc1 hc1
  simp only [Int.toNat_natCast] at hs0
  rw [← hs0] at hn0 hn9 hbd ⊢
  obtain ⟨n, hn1⟩ : ∃ n, lineN s = n := ⟨_, rfl⟩
  have hK : numK s mark = (parseB (numD s n mark)).1 := by rw [← hn1]; rfl
  rw [hK]
  unfold numBad at hbd
  rw [hK] at hbd
  rw [hn1] at hn0 hn9 hbd ⊢
  have hn2 : endOf (s.take (min s.length 16)) = n := by
    have : s.take (min s.length 16) = s.take 16 := by
      rw [List.take_eq_take_iff]
      omega
    rw [this]
    exact hn1
  have hs2 : s.length ≤ 1000000 := by rw [hs0, List.length_drop]; omega
  clear hs0 hn1 hK
  obtain ⟨m, hm⟩ : ∃ m, m = min s.length 16 := ⟨_, rfl⟩
  rw [← hm] at hn2
  obtain ⟨cut2, bc2, hc2⟩ := cut_take A1 (c - ((at_ : Int)).toNat) s (m : Int) (by omega) (by omega) hc1
  obtain ⟨cut3, bc3, hc3⟩ := cut_take A1 (c - ((at_ : Int)).toNat) s (n + 1) (by omega) (by omega) hc1
  simp only [Int.toNat_natCast] at cut1 cut2 cut3 hc1 hc2 hc3 bc2 bc1
  obtain ⟨s2, hs2e⟩ : ∃ s2, s2 = s.take m := ⟨_, rfl⟩
  rw [← hs2e] at cut2 bc2 hc2 hn2
  clear hs2e
  have hszT : (lineT s n).size ≤ 1000000 := by unfold lineT; rw [strNums_size, List.length_take]; omega
  have hszD : (numD s n mark).size ≤ 1000000 := by
    have e1 : (numL s n).data.toList.length ≤ 1000000 := by
      unfold numL Lib.trimSuffix
      have : (lineT s n).data.toList.length ≤ 1000000 := by rw [data_length]; exact hszT
      split <;> simp <;> simp at this <;> omega
    unfold numD Lib.trimPrefix
    show Array.size _ ≤ _
    split <;> simp <;> simp at e1 <;> omega
  obtain ⟨s3, hs3e⟩ : ∃ s3, s3 = s.take (n + 1).toNat := ⟨_, rfl⟩
  obtain ⟨T, hT⟩ : ∃ T, T = lineT s n := ⟨_, rfl⟩
  have hT3 : strOfNums s3 = T := by rw [hs3e, hT]; rfl
  rw [← hs3e] at cut3 bc3 hc3
  rw [← hT] at hszT
  have hcv := fun W (h : BC W A1 s3) => (cut_text W A1 (c - at_) s3 h)
  rw [hT3] at hcv
  obtain ⟨L, hL⟩ : ∃ L, L = numL s n := ⟨_, rfl⟩
  have hL2 : (⟨(Lib.trimSuffix T.data.toList [13, 10]).toArray⟩ : ByteArray) = L := by rw [hL, hT]; rfl
  obtain ⟨D, hD⟩ : ∃ D, D = numD s n mark := ⟨_, rfl⟩
  have hD2 : (⟨(Lib.trimPrefix L.data.toList mark.data.toList).toArray⟩ : ByteArray) = D := by rw [hD, hL]; rfl
  obtain ⟨bA, hbA⟩ : ∃ x, numA s n = x := ⟨_, rfl⟩
  have hbA2 : Lib.hasSuffix T.data.toList [13, 10] = bA := by rw [← hbA, hT]; rfl
  obtain ⟨bC, hbC⟩ : ∃ x, numC s n mark = x := ⟨_, rfl⟩
  have hbC2 : Lib.hasPrefix L.data.toList mark.data.toList = bC := by rw [← hbC, hL]; rfl
  rw [hbA, hbC, ← hD] at hbd
  rw [← hD] at hszD ⊢
  obtain ⟨k, bO, hP⟩ : ∃ k bO, parseB D = (k, bO) := ⟨_, _, rfl⟩
  rw [hP] at hbd ⊢
  simp only at hbd ⊢
  have HP := Aside0.mk (show num_Parse.f D = some (k, bO) by rw [← hP]; unfold num_Parse.f; rw [if_pos (by omega)])
  have HSf := Aside0.mk (fun W => Tryd.strings_CutSuffix T ⟨#[13, 10]⟩ W (by omega))
  have HCf := Aside0.mk (fun W => Tryd.strings_CutPrefix L mark W)
  simp only [hL2, hbA2, hD2, hbC2] at HSf HCf
  clear hs3e hT hT3 hL hL2 hD hD2 hbA hbA2 hbC hbC2 hP hszT hszD
  have HCV := Aside0.mk hcv
  have HN := Aside0.mk hn2
  have BCw := Aside0.mk hb
  have HM := Aside0.mk hm
  have HSC := Aside0.mk hs
  have HLd := Aside0.mk hLd
  have g0 : w.cell? ⟨g, 0, none⟩ = some (.slice A b.length c) := (pw_cells hs 0).1
  have g1 : w.cell? ⟨g, 1, none⟩ = some (.int .i64 at_) := (pw_cells hs 1).1
  clear hb hm hs hn2 hcv hLd
  have HBD := Aside0.mk hbd
  clear hbd
  go_enter Tryd.func36, Tryd.ntmps36
  go_wp2
  go_quiet (fail)
  go_wp2
  have hmin : min (s.length : Int) 16 = (m : Int) := by have := HM.out; omega
  go_quiet ((go_at_call 27; exact quiet_add_same (idx10 A1 (c - at_) s2 _ (Kd.C_drewN (bc2 _ (bc1 _ BCw.out)) _) n HN)))
  clear hmin
  have hcv1 := fun k => HCV.out _ (Kd.C_drewN (bc3 _ (bc1 _ BCw.out)) k)
  go_wp2_with (first | (go_at_call 45; refine (HSf.out _).mono ?_; rintro e w' ⟨rfl, rfl⟩) | (go_at_call 46; refine (HCf.out _).mono ?_; rintro e w' ⟨rfl, rfl⟩) | (go_at_call 47; refine (num_Parse.calls D k bO _ (HLd.out.drewN _) HP.out).mono ?_; rintro e w1 ⟨rfl, hb1⟩; have HB1 := Aside0.mk hb1; have hs1 := blk_below (blk_drewN HSC.out _) hb1; clear hb1; have q1 : w1.cell? ⟨g, 1, none⟩ = some (.int .i64 at_) := (pw_cells hs1 1).1; have q3 : w1.cell? ⟨g, 3, none⟩ = some (.bool false) := (pw_cells hs1 3).1; have z1 : w1.frozen? ⟨g, 1, none⟩ = false := (pw_cells hs1 1).2; have z3 : w1.frozen? ⟨g, 3, none⟩ = false := (pw_cells hs1 3).2; have HS1 := Aside0.mk hs1; clear hs1))
  all_goals go_ret
  all_goals refine ⟨rfl, ⟨?_, ?_⟩⟩
  all_goals first
    | exact Kp.set_ (S := (· = g)) (Kp.set_ (S := (· = g)) (((Kp.refl _ _).drewN _).trans (Kp.of_below HB1.out)) g 3 _ rfl) g 1 _ rfl
    | (refine (blk_set (blk_set HS1.out 3 _) 1 _).trans ?_
       clear cut1 cut2 cut3 bc1 bc2 bc3 g0 g1 q1 q3 z1 z3 hcv1
       have hB := HBD.out
       rw [← hB]
       clear hB
       simp [Int.add_assoc]
       try rw [Bool.eq_iff_iff]
       simp [*]
       try omega)

set_option maxHeartbeats 2000000 in
set_option maxRecDepth 100000 in
theorem word_short (g : Nat) (A : Option Addr) (b : List Int) (c : Nat) (at_ n : Nat) (w : World) (hb : BC w A b) (hc : b.length ≤ c) (hlen : b.length ≤ 1000000) (hat : at_ ≤ b.length) (hn : n ≤ 1000000)
    (hs : ScAt w g A b c at_ false false) (hsh : b.length < at_ + n + 2) :
    Calls Tryd.prog 37 #[.pointer (some ⟨g, 0, none⟩), .int .i64 n] w fun e w' => e = .returned (.string ⟨#[]⟩) ∧ ScTo w w' g A b c at_ true false := by
  obtain ⟨A1, cut1, bc1, hc1⟩ := cut_drop A c b at_ (by omega) (by omega) hc
  obtain ⟨s, hs0⟩ : ∃ s, s = b.drop ((at_ : Int)).toNat := ⟨_, rfl⟩
  rw [← hs0] at cut1 bc1 hc1
  have hsl : s.length + at_ = b.length := by rw [hs0, List.length_drop]; omega
  clear hs0
  have hlt : (s.length : Int) < n + 2 := by omega
  clear hsl hsh
  have HSC := Aside0.mk hs
  have g0 : w.cell? ⟨g, 0, none⟩ = some (.slice A b.length c) := (pw_cells hs 0).1
  have g1 : w.cell? ⟨g, 1, none⟩ = some (.int .i64 at_) := (pw_cells hs 1).1
  have g2 : w.cell? ⟨g, 2, none⟩ = some (.bool false) := (pw_cells hs 2).1
  have f2 : w.frozen? ⟨g, 2, none⟩ = false := (pw_cells hs 2).2
  clear hb hs
  go_enter Tryd.func37, Tryd.ntmps37
  go_wp2
  go_quiet (fail)
  go_wp2
  go_ret
  refine ⟨rfl, ?_, Kp.set_ (S := (· = g)) ((Kp.refl _ _).drewN _) g 2 _ rfl⟩
  exact (blk_set (blk_drewN HSC.out _) 2 _).trans (by simp)

def wordBad (s : List Int) (n : Nat) : Bool := (strOfNums ((s.take (n + 2)).drop n)).toList != [13, 10]

set_option maxHeartbeats 2000000 in
set_option maxRecDepth 100000 in
theorem word_some (w0 : World) (g : Nat) (A : Option Addr) (b : List Int) (c : Nat) (at_ n : Nat) (w : World) (hb : BC w0 A b) (hB : Below w0.heap.size w0 w) (hg : w0.heap.size ≤ g) (hc : b.length ≤ c) (hlen : b.length ≤ 1000000) (hat : at_ ≤ b.length) (hn : n ≤ 1000000)
    (hs : ScAt w g A b c at_ false false) (hsh : at_ + n + 2 ≤ b.length) (bd : Bool) (hbd : wordBad (b.drop at_) n = bd) :
    Calls Tryd.prog 37 #[.pointer (some ⟨g, 0, none⟩), .int .i64 n] w fun e w' => e = .returned (.string (strOfNums ((b.drop at_).take n))) ∧ ScTo w w' g A b c (at_ + n + 2) false bd := by
  obtain ⟨A1, cut1, bc1, hc1⟩ := cut_drop A c b at_ (by omega) (by omega) hc
  obtain ⟨s, hs0⟩ : ∃ s, s = b.drop ((at_ : Int)).toNat := ⟨_, rfl⟩
  rw [← hs0] at cut1 bc1 hc1
  simp only [Int.toNat_natCast] at hs0 cut1 hc1
  rw [← hs0] at hbd ⊢
  have hsl : s.length + at_ = b.length := by rw [hs0, List.length_drop]; omega
  clear hs0
  have hle : (n : Int) + 2 ≤ s.length := by omega
  obtain ⟨A2, cut2, bc2, hc2⟩ := cut_mid A1 (c - at_) s n (n + 2) (by omega) (by omega) (by omega) hc1
  obtain ⟨cut3, bc3, hc3⟩ := cut_take A1 (c - at_) s n (by omega) (by omega) hc1
  clear hsl hsh
  unfold wordBad at hbd
  have e2 : ((n : Int) + 2).toNat = n + 2 := by omega
  rw [e2] at cut2 bc2 hc2
  simp only [Int.toNat_natCast] at cut2 bc2 hc2 cut3 bc3 hc3
  obtain ⟨s2, hs2⟩ : ∃ s2, s2 = (s.take (n + 2)).drop n := ⟨_, rfl⟩
  obtain ⟨s3, hs3⟩ : ∃ s3, s3 = s.take n := ⟨_, rfl⟩
  rw [← hs2] at cut2 bc2 hc2 hbd
  rw [← hs3] at cut3 bc3 hc3 ⊢
  clear hs2 hs3 e2
  have hbd2 := hbd
  clear hbd
  have hsW : ∀ (k : Nat) (v : Value), Below w0.heap.size w0 ((w.drewN k).setCell ⟨g, 1, none⟩ v) := fun k v => (pw_below_drewN hB k).setCell (p := ⟨g, 1, none⟩) hg v
  have hsW3 : ∀ (k : Nat) (v v3 : Value), Below w0.heap.size w0 (((w.drewN k).setCell ⟨g, 1, none⟩ v).setCell ⟨g, 3, none⟩ v3) := fun k v v3 => (hsW k v).setCell (p := ⟨g, 3, none⟩) hg v3
  have hcv2 := fun k v => cut_text _ A2 (c - at_ - n) s2 (bc2 _ (bc1 _ (Kd.C_below hb (hsW k v))))
  have hcv3 := fun k v v3 => cut_text _ A1 (c - at_) s3 (bc3 _ (bc1 _ (Kd.C_below hb (hsW3 k v v3))))
  clear hsW hsW3
  obtain ⟨T2, hT2⟩ : ∃ T2, T2 = strOfNums s2 := ⟨_, rfl⟩
  obtain ⟨T3, hT3⟩ : ∃ T3, T3 = strOfNums s3 := ⟨_, rfl⟩
  rw [← hT2] at hbd2
  simp only [← hT2] at hcv2
  simp only [← hT3] at hcv3 ⊢
  clear hT2 hT3
  have HSC := Aside0.mk hs
  clear hB hg
  have g0 : w.cell? ⟨g, 0, none⟩ = some (.slice A b.length c) := (pw_cells hs 0).1
  have g1 : w.cell? ⟨g, 1, none⟩ = some (.int .i64 at_) := (pw_cells hs 1).1
  have g3 : w.cell? ⟨g, 3, none⟩ = some (.bool false) := (pw_cells hs 3).1
  have f1 : w.frozen? ⟨g, 1, none⟩ = false := (pw_cells hs 1).2
  have f3 : w.frozen? ⟨g, 3, none⟩ = false := (pw_cells hs 3).2
  clear hb hs
  go_enter Tryd.func37, Tryd.ntmps37
  go_wp2
  go_quiet (fail)
  go_wp2
  go_ret
  refine ⟨rfl, ?_, Kp.set_ (S := (· = g)) (Kp.set_ (S := (· = g)) ((Kp.refl _ _).drewN _) g 1 _ rfl) g 3 _ rfl⟩
  exact (blk_set (blk_set (blk_drewN HSC.out _) 1 _) 3 _).trans (by simp [Int.add_assoc]; rw [← hbd2]; simp [bne])
end Go.Proofs.YtmbfapgamcbajaaDoor.X
namespace Go.Proofs.YtmbfapgamcbajaaDoor.X
open Go.RowKit Go.Proofs.YtmbfapgamcbajaaDoorW.PrintWords

theorem end_lt (xs : List Int) : -1 ≤ endOf xs ∧ endOf xs < (xs.length : Int) ∨ xs = [] ∧ endOf xs = -1 := by
  have h1 := Lib.indexByte_ge (Go.Lib.bytesOf xs) 10
  unfold endOf
  rcases (by omega : Lib.indexByte (Go.Lib.bytesOf xs) 10 = -1 ∨ 0 ≤ Lib.indexByte (Go.Lib.bytesOf xs) 10) with h | h
  · cases xs with
    | nil => exact .inr ⟨rfl, rfl⟩
    | cons x l => left; rw [h]; simp; omega
  · obtain ⟨o, ho⟩ := Int.eq_ofNat_of_zero_le h
    have := (Lib.indexByte_some ho).1
    have h3 := (List.getElem?_eq_some_iff.1 this).1
    have e : (Go.Lib.bytesOf xs).length = xs.length := by simp [Go.Lib.bytesOf]
    left
    omega
theorem line_lt (s : List Int) : lineN s < 0 ∨ (0 ≤ lineN s ∧ lineN s < 16 ∧ lineN s < s.length) := by
  unfold lineN
  have := end_lt (s.take 16)
  rw [List.length_take] at this
  rcases this with h | ⟨_, h⟩ <;> omega

/-- The words from a place on, so many. -/
def rowL (b : List Int) : Nat → Nat → List ByteArray → List ByteArray × Int × Int
  | 0, at_, l => (l, at_, 0)
  | left + 1, at_, l =>
    if lineN (b.drop at_) < 0 then (if b.length - at_ < 16 then ([], 0, 0) else ([], 0, 10))
    else if numBad (b.drop at_) ⟨#[36]⟩ 0 512 = true then ([], 0, 10)
    else if b.length < (at_ + (lineN (b.drop at_)).toNat + 1) + (numK (b.drop at_) ⟨#[36]⟩).toNat + 2 then ([], 0, 0)
    else if wordBad (b.drop (at_ + (lineN (b.drop at_)).toNat + 1)) (numK (b.drop at_) ⟨#[36]⟩).toNat = true then ([], 0, 10)
    else rowL b left ((at_ + (lineN (b.drop at_)).toNat + 1) + (numK (b.drop at_) ⟨#[36]⟩).toNat + 2) (l ++ [strOfNums ((b.drop (at_ + (lineN (b.drop at_)).toNat + 1)).take (numK (b.drop at_) ⟨#[36]⟩).toNat)])

/-- What the scan comes to, from a loop's head on. -/
def rowS (b : List Int) (left : Nat) (at_ : Nat) (sh bd : Bool) (l : List ByteArray) : List ByteArray × Int × Int :=
  if bd = true then ([], 0, 10) else if sh = true then ([], 0, 0) else rowL b left at_ l

def rowB (b : List Int) : List ByteArray × Int × Int :=
  if lineN b < 0 then (if b.length < 16 then ([], 0, 0) else ([], 0, 10))
  else if numBad b ⟨#[42]⟩ 1 32 = true then ([], 0, 10)
  else rowL b (numK b ⟨#[42]⟩).toNat ((lineN b).toNat + 1) []

def frame_row.f (l0 : List Int) : Option (List ByteArray × Int × Int) := if l0.length ≤ 1000000 then some (rowB l0) else none

theorem good_K {s : List Int} {mark : ByteArray} {low high : Int} (h : numBad s mark low high = false) : low ≤ numK s mark ∧ numK s mark ≤ high := by
  unfold numBad at h
  simp at h
  exact ⟨h.1.2, h.2⟩

theorem infoS : (Tryd.prog.info? 9).map (fun i => (i.zero, i.size, i.bytes)) = some (some (.string ⟨#[]⟩), 1, 16) := by kernel_rfl

/-- number, at whatever place: what is told, and where the scan is then. -/
theorem number_all (w0 : World) (g : Nat) (A : Option Addr) (b : List Int) (c : Nat) (at_ : Nat) (mark : ByteArray) (low high : Int) (w : World) (hLd : Ld w0) (hb : BC w0 A b) (hB : Below w0.heap.size w0 w) (hg : w0.heap.size ≤ g) (hc : b.length ≤ c) (hlen : b.length ≤ 1000000) (hat : at_ ≤ b.length)
    (hs : ScAt w g A b c at_ false false) :
    Calls Tryd.prog 36 #[.pointer (some ⟨g, 0, none⟩), .string mark, .int .i64 low, .int .i64 high] w fun e w' => ∃ (k : Int) (a1 : Nat) (sh bd : Bool), e = .returned (.int .i64 k) ∧ ScTo w w' g A b c a1 sh bd ∧ a1 ≤ b.length ∧
      Aside0 ((lineN (b.drop at_) < 0 ∧ k = 0 ∧ sh = decide (b.length - at_ < 16) ∧ bd = !sh) ∨ (0 ≤ lineN (b.drop at_) ∧ k = numK (b.drop at_) mark ∧ a1 = at_ + (lineN (b.drop at_)).toNat + 1 ∧ sh = false ∧ bd = numBad (b.drop at_) mark low high)) := by
  have hb' : BC w A b := Kd.C_below hb hB
  rcases line_lt (b.drop at_) with h | ⟨h0, h1, h2⟩
  · refine (number_none g A b c at_ mark low high w hb' hc hlen hat hs h _ rfl).mono ?_
    rintro e w' ⟨rfl, hs'⟩
    exact ⟨_, _, _, _, rfl, hs', hat, ⟨.inl ⟨h, rfl, rfl, rfl⟩⟩⟩
  · refine (number_some g A b c at_ mark low high w (hLd.below hB) hb' hc hlen hat hs h0 h2 _ rfl).mono ?_
    rintro e w' ⟨rfl, hs'⟩
    have h3 : (b.drop at_).length = b.length - at_ := List.length_drop
    have e1 : (at_ : Int) + lineN (b.drop at_) + 1 = ((at_ + (lineN (b.drop at_)).toNat + 1 : Nat) : Int) := by omega
    rw [e1] at hs'
    exact ⟨_, _, _, _, rfl, hs', by omega, ⟨.inr ⟨h0, rfl, rfl, rfl, rfl⟩⟩⟩

theorem below_kp {w0 w1 w2 : World} {g : Nat} (h : Below w0.heap.size w0 w1) (k : Kp (· = g) w1 w2) (hg : w0.heap.size ≤ g) : Below w0.heap.size w0 w2 :=
  ((Kp.of_below (S := (· = g)) h).trans k).below fun i hi => by rw [hi]; exact hg

theorem row_kp {w w1 : World} {base g : Nat} {v : Value} {xs : List ByteArray} {cs : Array Value} {t : TypeId} (h : Kd.R Kd.string 9 w base (fun _ => True) v xs) (hs : w.heap[g]? = some (.cells cs t (0, 0))) (ht : 9 ≠ t) (k : Kp (· = g) w w1) :
    Kd.R Kd.string 9 w1 base (fun _ => True) v xs :=
  Kd.R_mono (Kd.R_step (Kd.R_types h hs (fun q hq => by
    rcases List.mem_cons.1 hq with rfl | hq
    · exact ht
    · cases hq)) (fun i hi hlt => k.block i hlt hi.2)) (fun _ _ => trivial)

set_option maxHeartbeats 8000000 in
set_option maxRecDepth 100000 in
theorem row_walk (A : Option Addr) (b : List Int) (c : Nat) (w : World) (hLd : Ld w) (hb : BC w A b) (hc : b.length ≤ c) (hlen : b.length ≤ 1000000) (r1 : List ByteArray) (r2 r3 : Int) (hr : rowB b = (r1, r2, r3)) :
    Calls Tryd.prog 26 #[.slice A b.length c] w fun e w' => ∃ v0_ : Value, e = .returned (.tuple #[v0_, .int .i64 r2, .int .i64 r3]) ∧ Kd.R Kd.string 9 w' w.heap.size (fun _ => True) v0_ r1 ∧ Below w.heap.size w w' := by
  have HL := Aside0.mk hLd
  have HBC := Aside0.mk hb
  have HR := Aside0.mk hr
  clear hLd hb hr
  go_enter Tryd.func26, Tryd.ntmps26
  go_wp2_with fail
  go_step3
  go_wp2_with fail
  go_step3
  go_wp2_with fail
  have hg0 : (w.alloc (.cells #[.slice A b.length c, .int .i64 0, .bool false, .bool false] 63)).heap[w.heap.size]? = some (.cells #[.slice A b.length c, .int .i64 0, .bool false, .bool false] 63 (0, 0)) := blk_new _ _
  refine (number_all w w.heap.size A b c 0 ⟨#[42]⟩ 1 32 _ HL.out HBC.out (below_alloc (Below.refl _ _) _) (Nat.le_refl _) hc hlen (by omega) hg0).mono ?_
  clear hg0
  rintro e w1 ⟨k, a1, sh, bd, rfl, hS, ha, hK⟩
  obtain ⟨hS1, hS2⟩ := hS
  have hb1 := below_kp (below_alloc (Below.refl _ _) _) hS2 (Nat.le_refl _)
  have H1 : Aside0 (rowS b k.toNat a1 sh bd [] = (r1, r2, r3) ∧ (bd = false → 0 + k.toNat ≤ 32) ∧ a1 ≤ b.length) := by
    rw [← HR.out]
    refine ⟨?_, ?_, ha⟩
    · unfold rowB
      rcases hK.out with ⟨h1, rfl, rfl, rfl⟩ | ⟨h1, rfl, rfl, rfl, rfl⟩
      · simp only [List.drop_zero] at h1
        rw [if_pos h1]
        by_cases h : b.length < 16 <;> simp [rowS, h]
      · simp only [List.drop_zero] at h1 ⊢
        rw [if_neg (by omega)]
        unfold rowS
        simp
    · intro hbd
      rcases hK.out with ⟨h1, rfl, rfl, rfl⟩ | ⟨h1, rfl, rfl, rfl, rfl⟩
      · simp
      · have := good_K hbd
        omega
  have HS1 := Aside0.mk hS1
  have HB1 := Aside0.mk hb1
  clear hS1 hS2 hb1 hK ha
  obtain ⟨g, hg⟩ : ∃ g, g = w.heap.size := ⟨_, rfl⟩
  rw [← hg] at HS1 ⊢
  have HG := Aside0.mk hg
  clear hg
  go_wp2_with fail
  go_loopw [6, 7, 8] (fun v6 v7 _ wr => ∃ (left : Int) (a : Nat) (s1 b1 : Bool) (l : List ByteArray), v7 = .int .i64 left ∧ Aside0 (ScAt wr g A b c a s1 b1) ∧ Aside0 (rowS b left.toNat a s1 b1 l = (r1, r2, r3) ∧ (b1 = false → l.length + left.toNat ≤ 32) ∧ a ≤ b.length) ∧ Aside0 (Kd.R Kd.string 9 wr w.heap.size (fun _ => True) v6 l) ∧ Aside0 (Below w.heap.size w wr)) (fun _ v7 _ _ => (intOf v7).toNat)
  case atStart => exact ⟨k, a1, sh, bd, [], rfl, HS1, H1, ⟨Kd.R_nil _ _ _ _ _⟩, HB1⟩
  case round =>
    clear HS1 H1 HB1 HR
    obtain ⟨left, a, s1, b1, l, rfl, HS, HR, HRow, HB⟩ := hrel
    have c1 : wr.cell? ⟨g, 1, none⟩ = some (.int .i64 a) := (pw_cells HS.out 1).1
    have c2 : wr.cell? ⟨g, 2, none⟩ = some (.bool s1) := (pw_cells HS.out 2).1
    have c3 : wr.cell? ⟨g, 3, none⟩ = some (.bool b1) := (pw_cells HS.out 3).1
    by_cases hl0 : 0 < left
    · cases b1
      · cases s1
        · have hl1 : left.toNat = (left.toNat - 1) + 1 := by omega
          have hdone := HR.out.1
          rw [hl1] at hdone
          simp only [rowS, rowL, Bool.false_eq_true, if_false] at hdone
          have HD := Aside0.mk hdone
          have HN := Aside0.mk (show l.length + left.toNat ≤ 32 ∧ a ≤ b.length from ⟨HR.out.2.1 rfl, HR.out.2.2⟩)
          have hl2 : left ≤ 32 := by have := HR.out.2.1 rfl; omega
          clear HR hdone hl1
          go_wp2_with fail
          refine (number_all w g A b c a ⟨#[36]⟩ 0 512 _ HL.out HBC.out HB.out (by rw [HG.out]; exact Nat.le_refl _) hc hlen HN.out.2 HS.out).mono ?_
          rintro e w1 ⟨k, a1, sh, bd, rfl, hS, ha, hK⟩
          obtain ⟨hS1, hS2⟩ := hS
          have hb1 := below_kp HB.out hS2 (by rw [HG.out]; exact Nat.le_refl _)
          have hr1 := row_kp HRow.out HS.out (by decide) hS2
          have HS1 := Aside0.mk hS1
          have HB1 := Aside0.mk hb1
          have HR1 := Aside0.mk hr1
          clear hS2 hb1 hr1 c1 c2 c3 HS HB HRow
          have c1 : w1.cell? ⟨g, 1, none⟩ = some (.int .i64 a1) := (pw_cells hS1 1).1
          have c2 : w1.cell? ⟨g, 2, none⟩ = some (.bool sh) := (pw_cells hS1 2).1
          have c3 : w1.cell? ⟨g, 3, none⟩ = some (.bool bd) := (pw_cells hS1 3).1
          clear hS1
          cases bd
          · cases sh
            · have hK2 : 0 ≤ lineN (b.drop a) ∧ k = numK (b.drop a) ⟨#[36]⟩ ∧ a1 = a + (lineN (b.drop a)).toNat + 1 ∧ numBad (b.drop a) ⟨#[36]⟩ 0 512 = false := by
                rcases hK.out with ⟨h1, rfl, h2, h3⟩ | ⟨h1, rfl, rfl, h2, h3⟩
                · cases h3
                · exact ⟨h1, rfl, rfl, h3.symm⟩
              obtain ⟨h1, hk, ha1, h3⟩ := hK2
              have h4 := good_K h3
              rw [← hk] at h4
              have hdone := HD.out
              rw [if_neg (by omega), if_neg (by rw [h3]; decide), ← ha1, ← hk] at hdone
              clear HD hK h1 h3 hk
              obtain ⟨n, rfl⟩ := Int.eq_ofNat_of_zero_le h4.1
              simp only [Int.toNat_natCast] at hdone
              have hn : n ≤ 512 := by omega
              clear h4
              have HA1 := Aside0.mk ha1
              clear ha1
              by_cases hsh : b.length < a1 + n + 2
              · go_wp2_with fail
                refine (word_short g A b c a1 n _ (Kd.C_below HBC.out HB1.out) hc hlen ha (by omega) HS1.out hsh).mono ?_
                rintro e w2 ⟨rfl, hS⟩
                obtain ⟨hS1, hS2⟩ := hS
                have hb2 := below_kp HB1.out hS2 (by rw [HG.out]; exact Nat.le_refl _)
                have hr2 := row_kp HR1.out HS1.out (by decide) hS2
                have HS2 := Aside0.mk hS1
                have HB2 := Aside0.mk hb2
                have HR2 := Aside0.mk hr2
                clear hS1 hS2 hb2 hr2 c1 c2 c3 HS1 HB1 HR1
                go_wp2_with (at_builtin; refine Kd.R_append Kd.string (w0 := w) w.heap.size rfl (.tmp 40) (.tmp 44) 25 9 (.string ⟨#[]⟩) 16 rfl Tryd.underlying25 infoS rfl (by decide) (by omega) _ l ⟨#[]⟩ [.string ⟨#[]⟩] (fun _ => True) (fun _ => False) rfl rfl rfl (fun _ hk => hk.elim) (fun _ _ => trivial) HR2.out HB2.out HB2.out.size (by have := HN.out.1; omega) ?_; intro v1 w3 ho hb hgr hat; have HS3 := Aside0.mk (blk_grown HS2.out hgr (Kd.R_ne HR2.out HS2.out (by decide))); have HO3 := Aside0.mk ho; have HB3 := Aside0.mk hb; clear ho hb hgr hat)
                go_roundw
                case rel =>
                  refine ⟨left - 1, _, _, _, l ++ [⟨#[]⟩], by go_num, HS3, ⟨?_, ?_, ?_⟩, HO3, HB3⟩
                  · rw [if_pos hsh] at hdone
                    rw [← hdone]
                    rfl
                  · intro _
                    have := HN.out.1
                    simp
                    omega
                  · exact ha
                case measure => simp [intOf]; omega
              · rw [if_neg hsh] at hdone
                obtain ⟨wb, hwb⟩ : ∃ wb, wordBad (b.drop a1) n = wb := ⟨_, rfl⟩
                rw [hwb] at hdone
                have HDN := Aside0.mk hdone
                have HWB := Aside0.mk hwb
                clear hdone hwb
                go_wp2_with fail
                refine (word_some w g A b c a1 n _ HBC.out HB1.out (by rw [HG.out]; exact Nat.le_refl _) hc hlen ha (by omega) HS1.out (by omega) _ HWB.out).mono ?_
                rintro e w2 ⟨rfl, hS⟩
                obtain ⟨hS1, hS2⟩ := hS
                have hb2 := below_kp HB1.out hS2 (by rw [HG.out]; exact Nat.le_refl _)
                have hr2 := row_kp HR1.out HS1.out (by decide) hS2
                have HS2 := Aside0.mk hS1
                have HB2 := Aside0.mk hb2
                have HR2 := Aside0.mk hr2
                clear hS1 hS2 hb2 hr2 c1 c2 c3 HS1 HB1 HR1
                go_wp2_with (at_builtin; refine Kd.R_append Kd.string (w0 := w) w.heap.size rfl (.tmp 40) (.tmp 44) 25 9 (.string ⟨#[]⟩) 16 rfl Tryd.underlying25 infoS rfl (by decide) (by omega) _ l (strOfNums ((b.drop a1).take n)) [.string (strOfNums ((b.drop a1).take n))] (fun _ => True) (fun _ => False) rfl rfl rfl (fun _ hk => hk.elim) (fun _ _ => trivial) HR2.out HB2.out HB2.out.size (by have := HN.out.1; omega) ?_; intro v1 w3 ho hb hgr hat; have HS3 := Aside0.mk (blk_grown HS2.out hgr (Kd.R_ne HR2.out HS2.out (by decide))); have HO3 := Aside0.mk ho; have HB3 := Aside0.mk hb; clear ho hb hgr hat)
                go_roundw
                case rel =>
                  refine ⟨left - 1, a1 + n + 2, false, wb, l ++ [(strOfNums ((b.drop a1).take n))], by go_num, ⟨by have e : ((a1 + n + 2 : Nat) : Int) = a1 + n + 2 := (by omega); rw [e]; exact HS3.out⟩, ⟨?_, ?_, ?_⟩, HO3, HB3⟩
                  · rw [← HDN.out]
                    have e1 : (left - 1).toNat = left.toNat - 1 := by omega
                    cases wb <;> simp [rowS, e1]
                  · intro _
                    have := HN.out.1
                    simp
                    omega
                  · omega
                case measure => simp [intOf]; omega
            · have hdone := HD.out
              have hx : lineN (b.drop a) < 0 ∧ b.length - a < 16 := by
                rcases hK.out with ⟨h1, rfl, h2, h3⟩ | ⟨h1, rfl, rfl, h2, h3⟩
                · exact ⟨h1, of_decide_eq_true h2.symm⟩
                · cases h2
              rw [if_pos hx.1, if_pos hx.2] at hdone
              obtain ⟨rfl, h5⟩ := Prod.mk.inj hdone
              obtain ⟨rfl, rfl⟩ := Prod.mk.inj h5
              clear hdone HD hx hK
              go_wp2_with fail
              all_goals (try rw [Exit.noGoto_ret])
              all_goals go_ret3
              all_goals exact ⟨_, rfl, Kd.R_nil _ _ _ _ _, HB1.out⟩
          · have hdone := HD.out
            have hx : ([], 0, 10) = (r1, r2, r3) := by
              rcases hK.out with ⟨h1, rfl, h2, h3⟩ | ⟨h1, rfl, rfl, h2, h3⟩
              · rw [if_pos h1] at hdone
                cases sh
                · rw [if_neg (of_decide_eq_false h2.symm)] at hdone
                  exact hdone
                · cases h3
              · rw [if_neg (by omega), if_pos h3.symm] at hdone
                exact hdone
            obtain ⟨rfl, h5⟩ := Prod.mk.inj hx
            obtain ⟨rfl, rfl⟩ := Prod.mk.inj h5
            clear hdone HD hx hK
            go_wp2_with fail
            all_goals (try rw [Exit.noGoto_ret])
            all_goals go_ret3
            all_goals exact ⟨_, rfl, Kd.R_nil _ _ _ _ _, HB1.out⟩
        · obtain ⟨e1, -, -⟩ := HR.out
          simp [rowS] at e1
          obtain ⟨rfl, rfl, rfl⟩ := e1
          clear HR
          go_wp2_with fail
          all_goals (try rw [Exit.noGoto_ret])
          all_goals go_ret3
          all_goals exact ⟨_, rfl, Kd.R_nil _ _ _ _ _, HB.out⟩
      · obtain ⟨e1, -, -⟩ := HR.out
        simp [rowS] at e1
        obtain ⟨rfl, rfl, rfl⟩ := e1
        clear HR
        go_wp2_with fail
        all_goals (try rw [Exit.noGoto_ret])
        all_goals go_ret3
        all_goals exact ⟨_, rfl, Kd.R_nil _ _ _ _ _, HB.out⟩
    · cases b1
      · cases s1
        · go_wp2_with fail
          go_quiet (fail)
          go_wp2_with fail
          rw [Exit.noGoto_ret]
          go_ret3
          obtain ⟨e1, -, -⟩ := HR.out
          have e0 : left.toNat = 0 := by omega
          simp [rowS, rowL, e0] at e1
          obtain ⟨rfl, rfl, rfl⟩ := e1
          exact ⟨_, rfl, Kd.R_drewN HRow.out _, pw_below_drewN HB.out _⟩
        · go_wp2_with fail
          go_ret3
          obtain ⟨e1, -, -⟩ := HR.out
          simp [rowS] at e1
          obtain ⟨rfl, rfl, rfl⟩ := e1
          exact ⟨_, rfl, Kd.R_nil _ _ _ _ _, HB.out⟩
      · go_wp2_with fail
        go_ret3
        obtain ⟨e1, -, -⟩ := HR.out
        simp [rowS] at e1
        obtain ⟨rfl, rfl, rfl⟩ := e1
        exact ⟨_, rfl, Kd.R_nil _ _ _ _ _, HB.out⟩

theorem frame_row.calls (A0 : Option Addr) (c0 : Nat) (l0 : List Int) (r1 : List ByteArray) (r2 r3 : Int) (w : World) (hr0 : Kd.C (Kd.int .u8) w A0 l0.length l0) (hc0 : l0.length ≤ c0) (hLd : Ld w) (h : frame_row.f l0 = some (r1, r2, r3)) :
    Calls Tryd.prog 26 #[.slice A0 l0.length c0] w fun e w' => ∃ v0_ : Value, e = .returned (.tuple #[v0_, .int .i64 r2, .int .i64 r3]) ∧ Kd.R Kd.string 9 w' w.heap.size (fun _ => True) v0_ r1 ∧ Below w.heap.size w w' := by
  unfold frame_row.f at h
  split at h
  · rename_i hl
    exact row_walk A0 l0 c0 w hLd hr0 hc0 hl r1 r2 r3 (Option.some.inj h)
  · cases h
end Go.Proofs.YtmbfapgamcbajaaDoor.X
namespace Go.Proofs.YtmbfapgamcbajaaDoor.X
open Go.RowKit Go.Proofs.YtmbfapgamcbajaaDoorW.PrintWords

theorem text_len (w : World) (A : Option Addr) (b : List Int) (h : BC w A b) : ∀ m c : Nat, m = b.length → (convert 22 9 (.slice A m c)).run Tryd.prog w = .ok (.string (strOfNums b)) w := by
  rintro m c rfl
  exact cut_text w A c b h

set_option maxHeartbeats 1000000 in
theorem equal_any (A0 : Option Addr) (m0 c0 : Nat) (l0 : List Int) (A1 : Option Addr) (m1 c1 : Nat) (l1 : List Int) (w : World) (h0 : BC w A0 l0) (h1 : BC w A1 l1) (e0 : m0 = l0.length) (e1 : m1 = l1.length) :
    Calls Tryd.prog 35 #[.slice A0 m0 c0, .slice A1 m1 c1] w fun e w' => e = .returned (.bool ((strOfNums l0).toList == (strOfNums l1).toList)) ∧ w' = w := by
  have t0 := text_len w A0 l0 h0 m0 c0 e0
  have t1 := text_len w A1 l1 h1 m1 c1 e1
  clear h0 h1 e0 e1
  go_enter Tryd.func35, Tryd.ntmps35
  go_wp2
  go_ret
  exact ⟨rfl, rfl⟩

def bytes_HasPrefix.f (l0 l1 : List Int) : Option Bool := some (decide (l1.length ≤ l0.length) && (strOfNums (l0.take l1.length)).toList == (strOfNums l1).toList)

set_option maxHeartbeats 1000000 in
theorem bytes_HasPrefix.calls (A0 : Option Addr) (c0 : Nat) (l0 : List Int) (A1 : Option Addr) (c1 : Nat) (l1 : List Int) (r : Bool) (w : World) (hr0 : Kd.C (Kd.int .u8) w A0 l0.length l0) (hc0 : l0.length ≤ c0) (hr1 : Kd.C (Kd.int .u8) w A1 l1.length l1) (hc1 : l1.length ≤ c1) (h : bytes_HasPrefix.f l0 l1 = some r) :
    Calls Tryd.prog 25 #[.slice A0 l0.length c0, .slice A1 l1.length c1] w fun e w' => e = .returned (.bool r) ∧ Drawn0 w w' := by
  obtain rfl := Option.some.inj h
  by_cases hl : l1.length ≤ l0.length
  · obtain ⟨cut1, bc1, hc⟩ := cut_take A0 c0 l0 l1.length (by omega) (by omega) hc0
    simp only [Int.toNat_natCast] at cut1 bc1 hc
    obtain ⟨s, hs⟩ : ∃ s, s = l0.take l1.length := ⟨_, rfl⟩
    rw [← hs] at cut1 bc1 hc ⊢
    rw [decide_eq_true hl, Bool.true_and]
    clear hs
    have HE := Aside0.mk (equal_any A0 s.length c0 s A1 l1.length c1 l1 w (bc1 _ hr0) hr1 rfl rfl)
    clear hr0 hr1 bc1
    have hd : (l1.length : Int) ≤ l0.length := by omega
    clear hl hc hc0 hc1
    go_enter Tryd.func25, Tryd.ntmps25
    go_wp2_with (go_at_call 35; refine HE.out.mono ?_; rintro e w' ⟨rfl, rfl⟩)
    go_ret
    exact ⟨rfl, Drawn0.refl _⟩
  · rw [decide_eq_false hl, Bool.false_and]
    have hd : ¬ (l1.length : Int) ≤ l0.length := by omega
    clear hl hr0 hr1 hc0 hc1
    go_enter Tryd.func25, Tryd.ntmps25
    go_wp2
    go_ret
    exact ⟨rfl, Drawn0.refl _⟩
end Go.Proofs.YtmbfapgamcbajaaDoor.X
namespace Go.Proofs.YtmbfapgamcbajaaDoor.X
open Go.RowKit Go.Proofs.YtmbfapgamcbajaaDoorW.PrintWords

theorem lit_bytes (w : World) (xs : List Int) (fr : Nat × Nat) (hm : xs.length ≤ 9223372036854775807) : BC (w.alloc (.cells (xs.map (Value.int .u8)).toArray 5 fr)) (some ⟨w.heap.size, 0, none⟩) xs := by
  refine Kd.C_of_reads (d := (0 : Int)) (h1 := fun _ => rfl) ⟨rfl, hm, fun _ => ⟨_, rfl, fun j hj => ?_⟩⟩
  rw [add_plain]
  have hh : (w.alloc (.cells (xs.map (Value.int .u8)).toArray 5 fr)).heap[w.heap.size]? = some (.cells (xs.map (Value.int .u8)).toArray 5 fr) := by
    show (w.heap.push _)[w.heap.size]? = _
    simp
  unfold World.cell?
  dsimp only
  rw [hh]
  simp [hj]

/-- What stands between blanks. -/
def piecesOf (T : ByteArray) : List ByteArray := Go.Lib.splitB ⟨#[32]⟩ 0 (Go.Lib.countB T ⟨#[32]⟩) T
def someB (s : ByteArray) : Bool := s.toList != []
def lineOf (s : List Int) : ByteArray := ⟨(Go.Lib.trimSuffix (strOfNums s).data.toList [13]).toArray⟩
def starts (b : List Int) : Bool := decide (1 ≤ b.length) && (strOfNums (b.take 1)).toList == [42]

def nextB (b : List Int) : List ByteArray × Int × Int :=
  if starts b = true then rowB b
  else if endOf (b.take 600) < 0 then (if b.length < 600 then ([], 0, 0) else ([], 0, 10))
  else if 32 < ((piecesOf (lineOf (b.take (endOf (b.take 600)).toNat))).filter someB).length then ([], 0, 10)
  else ((piecesOf (lineOf (b.take (endOf (b.take 600)).toNat))).filter someB, endOf (b.take 600) + 1, 0)

theorem pre_star (w : World) (A0 : Option Addr) (c0 : Nat) (l0 : List Int) (h0 : BC w A0 l0) (hc0 : l0.length ≤ c0) (c : Nat) (hc : 1 ≤ c) (A1 : Option Addr) (h1 : BC w A1 [42]) (r : Bool) (hr : Aside0 (starts l0 = r)) :
    Calls Tryd.prog 25 #[.slice A0 l0.length c0, .slice A1 1 c] w fun e w' => e = .returned (.bool r) ∧ Drawn0 w w' := by
  refine bytes_HasPrefix.calls A0 c0 l0 A1 c [42] r w h0 hc0 h1 hc ?_
  rw [← hr.out]
  unfold bytes_HasPrefix.f starts
  have e : (strOfNums [42]).toList = [42] := by rw [Lib.strOfNums_toList]; rfl
  rw [e]
  rfl

set_option maxHeartbeats 8000000 in
set_option maxRecDepth 100000 in
theorem next_star (A : Option Addr) (b : List Int) (c : Nat) (w : World) (hLd : Ld w) (hb : BC w A b) (hc : b.length ≤ c) (hlen : b.length ≤ 1000000) (hst : starts b = true) (r1 : List ByteArray) (r2 r3 : Int) (hr : rowB b = (r1, r2, r3)) :
    Calls Tryd.prog 11 #[.slice A b.length c] w fun e w' => ∃ v0_ : Value, e = .returned (.tuple #[v0_, .int .i64 r2, .int .i64 r3]) ∧ Kd.R Kd.string 9 w' w.heap.size (fun _ => True) v0_ r1 ∧ Below w.heap.size w w' := by
  have HL := Aside0.mk hLd
  have HBC := Aside0.mk hb
  have HR := Aside0.mk hr
  have HS := Aside0.mk hst
  clear hLd hb hr hst
  have kc := fun (w : World) (C : Array Value) (n c : Nat) => Lib.run_convert_bytes_const (P := Tryd.prog) w 22 5 C n c Tryd.underlying22 Tryd.underlying5
  have HLT := Aside0.mk (lit_bytes w [42] (1, 2) (by simp))
  have hb1 : Below w.heap.size w (w.alloc (.cells #[.int .u8 42] 5 (1, 2))) := below_alloc (Below.refl _ _) _
  have HB1 := Aside0.mk hb1
  clear hb1
  go_enter Tryd.func11, Tryd.ntmps11
  go_wp2_with (go_at_call 25; refine (pre_star _ A c b (Kd.C_below HBC.out HB1.out) hc 1 (Nat.le_refl _) _ HLT.out true HS).mono ?_; rintro e w1 ⟨rfl, hd⟩; have HB2 := Aside0.mk (below_then HB1.out HB1.out.size hd.below); clear hd)
  refine (row_walk A b c _ (HL.out.below HB2.out) (Kd.C_below HBC.out HB2.out) hc hlen r1 r2 r3 HR.out).mono ?_
  rintro e w2 ⟨v0, rfl, hR, hB⟩
  have HB3 := Aside0.mk (below_then HB2.out HB2.out.size hB)
  have HR3 := Aside0.mk (Kd.R_lower hR HB2.out.size)
  clear hR hB
  go_wp2
  go_ret3
  exact ⟨_, rfl, HR3.out, HB3.out⟩

theorem splits (T : ByteArray) (w : World) (hLd : Ld w) (h : T.size ≤ 1000000) :
    Calls Tryd.prog 28 #[.string T, .string ⟨#[32]⟩] w fun e w' => ∃ v0_ : Value, e = .returned v0_ ∧ Kd.R Kd.string 9 w' w.heap.size (fun _ => True) v0_ (piecesOf T) ∧ Below w.heap.size w w' := by
  refine strings_Split.calls T ⟨#[32]⟩ (piecesOf T) w hLd ?_
  unfold strings_Split.f
  rw [if_pos ⟨by omega, rfl⟩]
  rfl

theorem pieces_le (T : ByteArray) : (piecesOf T).length ≤ T.size + 1 := by
  have hlen := Lib.splitB_all ⟨#[32]⟩ (by decide) 0 _ T rfl
  have hle := Lib.countB_le ⟨#[32]⟩ (by decide) T.size T (Nat.le_refl _)
  unfold piecesOf
  omega

theorem idx10b (A : Option Addr) (m c : Nat) (xs : List Int) (w : World) (h : BC w A xs) (hm : m = xs.length) (n : Int) (hn : Aside0 (endOf xs = n)) :
    Calls Tryd.prog 27 #[.slice A m c, .int .u8 ((({ data := #[10] } : ByteArray)[0]'(by decide)).toNat : Int)] w fun e w' => e = .returned (.int .i64 n) ∧ w' = w := by
  subst hm
  exact idx10 A c xs w h n hn

set_option maxHeartbeats 8000000 in
set_option maxRecDepth 100000 in
theorem next_none (A : Option Addr) (b : List Int) (c : Nat) (w : World) (hb : BC w A b) (hc : b.length ≤ c) (hlen : b.length ≤ 1000000) (hst : starts b = false) (hn : endOf (b.take 600) < 0) :
    Calls Tryd.prog 11 #[.slice A b.length c] w fun e w' => e = .returned (.tuple #[.slice none 0 0, .int .i64 0, .int .i64 (if b.length < 600 then 0 else 10)]) ∧ Below w.heap.size w w' := by
  obtain ⟨m, hm⟩ : ∃ m, m = min b.length 600 := ⟨_, rfl⟩
  obtain ⟨cut2, bc2, hc2⟩ := cut_take A c b (m : Int) (by omega) (by omega) hc
  simp only [Int.toNat_natCast] at cut2 bc2 hc2
  obtain ⟨s2, hs2⟩ : ∃ s2, s2 = b.take m := ⟨_, rfl⟩
  have hn2 : endOf s2 < 0 := by
    rw [hs2, hm]
    have : b.take (min b.length 600) = b.take 600 := by
      rw [List.take_eq_take_iff]
      omega
    rw [this]
    exact hn
  rw [← hs2] at cut2 bc2 hc2
  obtain ⟨n, hn3⟩ : ∃ n, endOf s2 = n := ⟨_, rfl⟩
  rw [hn3] at hn2
  have HN := Aside0.mk hn3
  have HBC := Aside0.mk hb
  have HS := Aside0.mk hst
  have HM := Aside0.mk hm
  clear hs2 hn3 hb hst hn hm
  have kc := fun (w : World) (C : Array Value) (n c : Nat) => Lib.run_convert_bytes_const (P := Tryd.prog) w 22 5 C n c Tryd.underlying22 Tryd.underlying5
  have HLT := Aside0.mk (lit_bytes w [42] (1, 2) (by simp))
  have hb1 : Below w.heap.size w (w.alloc (.cells #[.int .u8 42] 5 (1, 2))) := below_alloc (Below.refl _ _) _
  have HB1 := Aside0.mk hb1
  clear hb1
  by_cases hsh : b.length < 600
  · have hd : ((b.length : Int) < 600) := by omega
    rw [if_pos hsh]
    clear hsh
    go_enter Tryd.func11, Tryd.ntmps11
    go_wp2_with (go_at_call 25; refine (pre_star _ A c b (Kd.C_below HBC.out HB1.out) hc 1 (Nat.le_refl _) _ HLT.out false HS).mono ?_; rintro e w1 ⟨rfl, hd⟩; have HB2 := Aside0.mk (below_then HB1.out HB1.out.size hd.below); clear hd)
    have hmin : min (b.length : Int) 600 = (m : Int) := by have := HM.out; omega
    go_quiet ((go_at_call 27; exact Calls.quiet_of_same (idx10b A _ c s2 _ (Kd.C_drewN (bc2 _ (Kd.C_below HBC.out HB2.out)) _) rfl n HN)))
    clear hmin
    go_wp2
    go_ret3
    exact ⟨rfl, pw_below_drewN HB2.out _⟩
  · have hd : ¬ ((b.length : Int) < 600) := by omega
    rw [if_neg hsh]
    clear hsh
    go_enter Tryd.func11, Tryd.ntmps11
    go_wp2_with (go_at_call 25; refine (pre_star _ A c b (Kd.C_below HBC.out HB1.out) hc 1 (Nat.le_refl _) _ HLT.out false HS).mono ?_; rintro e w1 ⟨rfl, hd⟩; have HB2 := Aside0.mk (below_then HB1.out HB1.out.size hd.below); clear hd)
    have hmin : min (b.length : Int) 600 = (m : Int) := by have := HM.out; omega
    go_quiet ((go_at_call 27; exact Calls.quiet_of_same (idx10b A _ c s2 _ (Kd.C_drewN (bc2 _ (Kd.C_below HBC.out HB2.out)) _) rfl n HN)))
    clear hmin
    go_wp2
    go_ret3
    exact ⟨rfl, pw_below_drewN HB2.out _⟩

set_option maxHeartbeats 8000000 in
set_option maxRecDepth 100000 in
theorem next_line (A : Option Addr) (b : List Int) (c : Nat) (w : World) (hLd : Ld w) (hb : BC w A b) (hc : b.length ≤ c) (hlen : b.length ≤ 1000000) (hst : starts b = false) (hn0 : 0 ≤ endOf (b.take 600)) (hn9 : endOf (b.take 600) < b.length) (l : List ByteArray) (hl : (piecesOf (lineOf (b.take (endOf (b.take 600)).toNat))).filter someB = l) (n : Int) (hn : endOf (b.take 600) = n) (R : Value → Value) (hR : (32 < l.length ∧ R = fun _ => .tuple #[.slice none 0 0, .int .i64 0, .int .i64 10]) ∨ (¬ 32 < l.length ∧ R = fun v => .tuple #[v, .int .i64 (n + 1), .int .i64 0])) :
    Calls Tryd.prog 11 #[.slice A b.length c] w fun e w' => ∃ v0_ : Value, e = .returned (R v0_) ∧ Kd.R Kd.string 9 w' w.heap.size (fun _ => True) v0_ l ∧ Below w.heap.size w w' := by
  rw [hn] at hn0 hn9 hl
  have HRR := Aside0.mk hR
  clear hR
  obtain ⟨m, hm⟩ : ∃ m, m = min b.length 600 := ⟨_, rfl⟩
  obtain ⟨cut2, bc2, hc2⟩ := cut_take A c b (m : Int) (by omega) (by omega) hc
  obtain ⟨cut3, bc3, hc3⟩ := cut_take A c b n (by omega) (by omega) hc
  simp only [Int.toNat_natCast] at cut2 bc2 hc2
  obtain ⟨s2, hs2⟩ : ∃ s2, s2 = b.take m := ⟨_, rfl⟩
  have hn2 : endOf s2 = n := by
    rw [hs2, hm]
    have : b.take (min b.length 600) = b.take 600 := by
      rw [List.take_eq_take_iff]
      omega
    rw [this]
    exact hn
  rw [← hs2] at cut2 bc2 hc2
  obtain ⟨s3, hs3⟩ : ∃ s3, s3 = b.take n.toNat := ⟨_, rfl⟩
  rw [← hs3] at cut3 bc3 hc3 hl
  have hs3l : s3.length ≤ 1000000 := by rw [hs3, List.length_take]; omega
  obtain ⟨T, hT⟩ : ∃ T, T = strOfNums s3 := ⟨_, rfl⟩
  obtain ⟨L, hL⟩ : ∃ L, L = lineOf s3 := ⟨_, rfl⟩
  have hTs : T.size ≤ 1000000 := by rw [hT, strNums_size]; exact hs3l
  have hLs : L.size ≤ 1000000 := by
    rw [hL]
    unfold lineOf Lib.trimSuffix
    have : (strOfNums s3).data.toList.length ≤ 1000000 := by rw [data_length, ← hT]; exact hTs
    show Array.size _ ≤ _
    split <;> simp <;> simp at this <;> omega
  have hLT : (⟨(Lib.trimSuffix T.data.toList [13]).toArray⟩ : ByteArray) = L := by rw [hL, hT]; rfl
  rw [← hL] at hl
  obtain ⟨ps, hps⟩ : ∃ ps, ps = piecesOf L := ⟨_, rfl⟩
  have hpl : ps.length ≤ 1000001 := by rw [hps]; have := pieces_le L; omega
  have HSp := Aside0.mk (fun W h => splits L W h hLs)
  simp only [← hps] at HSp
  rw [← hps] at hl
  have HTr := Aside0.mk (fun W => Tryd.strings_TrimSuffix T ⟨#[13]⟩ W (by omega))
  simp only [hLT] at HTr
  have HCV := Aside0.mk (fun W (h : BC W A s3) => cut_text W A c s3 h)
  simp only [← hT] at HCV
  have HN := Aside0.mk hn2
  have HBC := Aside0.mk hb
  have HS := Aside0.mk hst
  have HM := Aside0.mk hm
  have HLd := Aside0.mk hLd
  have HL := Aside0.mk hl
  have HP := Aside0.mk hpl
  clear hs2 hs3 hn2 hb hst hn hm hLd hl hT hL hTs hLs hLT hps hpl
  have kc := fun (w : World) (C : Array Value) (n c : Nat) => Lib.run_convert_bytes_const (P := Tryd.prog) w 22 5 C n c Tryd.underlying22 Tryd.underlying5
  have HLT := Aside0.mk (lit_bytes w [42] (1, 2) (by simp))
  have hb1 : Below w.heap.size w (w.alloc (.cells #[.int .u8 42] 5 (1, 2))) := below_alloc (Below.refl _ _) _
  have HB1 := Aside0.mk hb1
  clear hb1
  go_enter Tryd.func11, Tryd.ntmps11
  go_wp2_with (go_at_call 25; refine (pre_star _ A c b (Kd.C_below HBC.out HB1.out) hc 1 (Nat.le_refl _) _ HLT.out false HS).mono ?_; rintro e w1 ⟨rfl, hd⟩; have HB2 := Aside0.mk (below_then HB1.out HB1.out.size hd.below); clear hd)
  have hmin : min (b.length : Int) 600 = (m : Int) := by have := HM.out; omega
  go_quiet ((go_at_call 27; exact Calls.quiet_of_same (idx10b A _ c s2 _ (Kd.C_drewN (bc2 _ (Kd.C_below HBC.out HB2.out)) _) rfl n HN)))
  clear hmin
  have hcv := fun k => HCV.out _ (Kd.C_drewN (bc3 _ (Kd.C_below HBC.out HB2.out)) k)
  go_wp2_with (first | (go_at_call 29; refine (HTr.out _).mono ?_; rintro e w' ⟨rfl, rfl⟩) | (go_at_call 28; refine (HSp.out _ ((HLd.out.below HB2.out).drewN _)).mono ?_; rintro e w2 ⟨v0, rfl, hR, hB⟩; obtain ⟨A2, c2, e0⟩ := Kd.R_slice hR; subst e0; have HPS := Aside0.mk (Kd.R_reads' hR).2.2; have HB3 := Aside0.mk (below_then (pw_below_drewN HB2.out _) HB2.out.size hB); clear hR hB))
  go_loopw [6, 8, 37] (fun v6 _ v37 wr => ∃ k : Nat, k ≤ ps.length ∧ v37 = .int .i64 k ∧ Aside0 (Kd.R Kd.string 9 wr w2.heap.size (fun _ => True) v6 ((ps.take k).filter someB)) ∧ Aside0 (Below w2.heap.size w2 wr)) (fun _ _ v37 _ => ps.length - (intOf v37).toNat)
  case atStart => exact ⟨0, Nat.zero_le _, rfl, ⟨Kd.R_nil _ _ _ _ _⟩, ⟨Below.refl _ _⟩⟩
  case round =>
    obtain ⟨k, hk, rfl, HR, HB4⟩ := hrel
    have hpl := HP.out
    by_cases hlt : k < ps.length
    · obtain ⟨ad, e0, hc⟩ := (Kd.reads_of_C (d := ByteArray.empty) HPS.out).2.2 (by omega)
      subst e0
      have hc1 := (HB4.out.cell (World.block_lt_of_cell? w2 _ (hc k hlt))).trans (hc k hlt)
      obtain ⟨s, hs⟩ : ∃ s, ps.getD k ByteArray.empty = s := ⟨_, rfl⟩
      rw [hs] at hc1
      have htk : ps.take (k + 1) = ps.take k ++ [s] := by
        rw [List.take_succ_eq_append_getElem hlt, ← hs, List.getD_eq_getElem?_getD, List.getElem?_eq_getElem hlt]
        rfl
      have HT := Aside0.mk htk
      clear hc hs htk
      have hfl : ((ps.take k).filter someB).length ≤ 1000001 := Nat.le_trans (List.length_filter_le _ _) (by rw [List.length_take]; omega)
      have HF := Aside0.mk hfl
      clear hfl
      have hkI : (k : Int) < ps.length := by omega
      by_cases hsb : s.toList = []
      · have h1 : (s.toList != []) = false := by rw [hsb]; rfl
        have HSB := Aside0.mk h1
        go_wp2
        go_roundw
        case rel =>
          refine ⟨k + 1, by omega, by go_num, ⟨?_⟩, HB4⟩
          rw [HT.out, List.filter_append]
          have : [s].filter someB = [] := by simp [someB, HSB.out]
          rw [this, List.append_nil]
          exact HR.out
        case measure => simp [intOf]; omega
      · have h1 : (s.toList != []) = true := bne_iff_ne.2 hsb
        have h2 : (!s.toList.isEmpty) = true := by cases hq : s.toList with
          | nil => exact absurd hq hsb
          | cons => rfl
        have HSB := Aside0.mk h1
        go_wp2_with (at_builtin; refine Kd.R_append Kd.string (w0 := w2) w2.heap.size rfl (.tmp 43) (.tmp 45) 25 9 (.string ⟨#[]⟩) 16 rfl Tryd.underlying25 infoS rfl (by decide) (by omega) _ _ s [.string s] (fun _ => True) (fun _ => False) rfl rfl rfl (fun _ hk => hk.elim) (fun _ _ => trivial) HR.out HB4.out HB4.out.size (by have := HF.out; omega) ?_; intro v1 w3 ho hb hgr hat; have HO3 := Aside0.mk ho; have HB5 := Aside0.mk hb; have HG5 := Aside0.mk hgr; clear ho hb hgr hat)
        go_roundw
        case rel =>
          refine ⟨k + 1, by omega, by go_num, ⟨?_⟩, HB5⟩
          rw [HT.out, List.filter_append]
          have : [s].filter someB = [s] := by simp [someB, HSB.out]
          rw [this]
          exact HO3.out
        case measure => simp [intOf]; omega
    · obtain rfl : k = ps.length := by omega
      rw [List.take_length, HL.out] at HR
      have hkI : ¬ ((ps.length : Int) < ps.length) := by omega
      obtain ⟨A6, c6, e6⟩ := Kd.R_slice HR.out
      subst e6
      have HRl := Aside0.mk (Kd.R_lower HR.out HB3.out.size)
      have HBl := Aside0.mk (below_then HB3.out HB3.out.size HB4.out)
      clear HR HB4
      rcases HRR.out with ⟨h32, rfl⟩ | ⟨h32, rfl⟩
      · have hd : (32 : Int) < l.length := by omega
        clear h32 HRR
        go_wp2
        go_ret3
        exact ⟨rfl, ⟨_, HRl.out⟩, HBl.out⟩
      · have hd : ¬ (32 : Int) < l.length := by omega
        clear h32 HRR
        go_wp2
        go_ret3
        exact ⟨_, rfl, HRl.out, HBl.out⟩

theorem end_take (b : List Int) (m : Nat) : endOf (b.take m) < 0 ∨ (0 ≤ endOf (b.take m) ∧ endOf (b.take m) < b.length) := by
  have := end_lt (b.take m)
  rw [List.length_take] at this
  rcases this with h | ⟨_, h⟩ <;> omega

/-- frame.Next is nextB. -/
theorem next_any (A : Option Addr) (b : List Int) (c : Nat) (w : World) (hLd : Ld w) (hb : BC w A b) (hc : b.length ≤ c) (hlen : b.length ≤ 1000000) (r1 : List ByteArray) (r2 r3 : Int) (hr : nextB b = (r1, r2, r3)) :
    Calls Tryd.prog 11 #[.slice A b.length c] w fun e w' => ∃ v0_ : Value, e = .returned (.tuple #[v0_, .int .i64 r2, .int .i64 r3]) ∧ Kd.R Kd.string 9 w' w.heap.size (fun _ => True) v0_ r1 ∧ Below w.heap.size w w' := by
  unfold nextB at hr
  by_cases hs : starts b = true
  · rw [if_pos hs] at hr
    exact next_star A b c w hLd hb hc hlen hs r1 r2 r3 hr
  · rw [if_neg hs] at hr
    have hs' : starts b = false := by simpa using hs
    rcases end_take b 600 with h | ⟨h0, h1⟩
    · rw [if_pos h] at hr
      refine (next_none A b c w hb hc hlen hs' h).mono ?_
      rintro e w' ⟨rfl, hB⟩
      by_cases h6 : b.length < 600
      · rw [if_pos h6] at hr ⊢
        obtain ⟨rfl, h5⟩ := Prod.mk.inj hr
        obtain ⟨rfl, rfl⟩ := Prod.mk.inj h5
        exact ⟨_, rfl, Kd.R_nil _ _ _ _ _, hB⟩
      · rw [if_neg h6] at hr ⊢
        obtain ⟨rfl, h5⟩ := Prod.mk.inj hr
        obtain ⟨rfl, rfl⟩ := Prod.mk.inj h5
        exact ⟨_, rfl, Kd.R_nil _ _ _ _ _, hB⟩
    · rw [if_neg (by omega)] at hr
      by_cases h32 : 32 < ((piecesOf (lineOf (b.take (endOf (b.take 600)).toNat))).filter someB).length
      · rw [if_pos h32] at hr
        refine (next_line A b c w hLd hb hc hlen hs' h0 h1 _ rfl _ rfl _ (.inl ⟨h32, rfl⟩)).mono ?_
        rintro e w' ⟨v0, rfl, hR, hB⟩
        obtain ⟨rfl, h5⟩ := Prod.mk.inj hr
        obtain ⟨rfl, rfl⟩ := Prod.mk.inj h5
        exact ⟨_, rfl, Kd.R_nil _ _ _ _ _, hB⟩
      · rw [if_neg h32] at hr
        refine (next_line A b c w hLd hb hc hlen hs' h0 h1 _ rfl _ rfl _ (.inr ⟨h32, rfl⟩)).mono ?_
        rintro e w' ⟨v0, rfl, hR, hB⟩
        obtain ⟨rfl, h5⟩ := Prod.mk.inj hr
        obtain ⟨rfl, rfl⟩ := Prod.mk.inj h5
        exact ⟨_, rfl, hR, hB⟩
end Go.Proofs.YtmbfapgamcbajaaDoor.X
