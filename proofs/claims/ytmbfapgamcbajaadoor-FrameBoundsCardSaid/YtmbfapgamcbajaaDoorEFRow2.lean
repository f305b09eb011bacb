/- frame.row: its text and the plain function are one. -/
import Derived.Test.YtmbfapgamcbajaaDoorEFRow
import Derived.WalkMore
import Derived.LoopTactic
import Derived.Deep.LoopGhost
set_option linter.unusedVariables false
set_option linter.unusedSimpArgs false
namespace Go.Proofs.YtmbfapgamcbajaaDoor.X
open Go.RowKit Go.Proofs.YtmbfapgamcbajaaDoorW.PrintWords

theorem end_lt (xs : List Int) : -1 ≤ endOf xs ∧ endOf xs < (xs.length : Int) ∨ xs = [] ∧ endOf xs = -1 := by
  have h1 := Lib.indexByte_ge (Go.Lib.bytesOf xs) 10
  unfold endOf
  rcases (by omega : Lib.indexByte (Go.Lib.bytesOf xs) 10 = -1 ∨ 0 ≤ Lib.indexByte (Go.Lib.bytesOf xs) 10) with h | h
  · cases xs with
    | nil => exact .inr ⟨rfl, rfl⟩
    | cons x l => left; rw [h]; simp; omega
  · obtain ⟨o, ho⟩ := Int.eq_ofNat_of_zero_le h
    have := (Lib.indexByte_some ho).1
    have h3 := (List.getElem?_eq_some_iff.1 this).1
    have e : (Go.Lib.bytesOf xs).length = xs.length := by simp [Go.Lib.bytesOf]
    left
    omega
theorem line_lt (s : List Int) : lineN s < 0 ∨ (0 ≤ lineN s ∧ lineN s < 16 ∧ lineN s < s.length) := by
  unfold lineN
  have := end_lt (s.take 16)
  rw [List.length_take] at this
  rcases this with h | ⟨_, h⟩ <;> omega

/-- The words from a place on, so many. -/
def rowL (b : List Int) : Nat → Nat → List ByteArray → List ByteArray × Int × Int
  | 0, at_, l => (l, at_, 0)
  | left + 1, at_, l =>
    if lineN (b.drop at_) < 0 then (if b.length - at_ < 16 then ([], 0, 0) else ([], 0, 10))
    else if numBad (b.drop at_) ⟨#[36]⟩ 0 512 = true then ([], 0, 10)
    else if b.length < (at_ + (lineN (b.drop at_)).toNat + 1) + (numK (b.drop at_) ⟨#[36]⟩).toNat + 2 then ([], 0, 0)
    else if wordBad (b.drop (at_ + (lineN (b.drop at_)).toNat + 1)) (numK (b.drop at_) ⟨#[36]⟩).toNat = true then ([], 0, 10)
    else rowL b left ((at_ + (lineN (b.drop at_)).toNat + 1) + (numK (b.drop at_) ⟨#[36]⟩).toNat + 2) (l ++ [strOfNums ((b.drop (at_ + (lineN (b.drop at_)).toNat + 1)).take (numK (b.drop at_) ⟨#[36]⟩).toNat)])

/-- What the scan comes to, from a loop's head on. -/
def rowS (b : List Int) (left : Nat) (at_ : Nat) (sh bd : Bool) (l : List ByteArray) : List ByteArray × Int × Int :=
  if bd = true then ([], 0, 10) else if sh = true then ([], 0, 0) else rowL b left at_ l

def rowB (b : List Int) : List ByteArray × Int × Int :=
  if lineN b < 0 then (if b.length < 16 then ([], 0, 0) else ([], 0, 10))
  else if numBad b ⟨#[42]⟩ 1 32 = true then ([], 0, 10)
  else rowL b (numK b ⟨#[42]⟩).toNat ((lineN b).toNat + 1) []

def frame_row.f (l0 : List Int) : Option (List ByteArray × Int × Int) := if l0.length ≤ 1000000 then some (rowB l0) else none

theorem good_K {s : List Int} {mark : ByteArray} {low high : Int} (h : numBad s mark low high = false) : low ≤ numK s mark ∧ numK s mark ≤ high := by
  unfold numBad at h
  simp at h
  exact ⟨h.1.2, h.2⟩

theorem infoS : (Tryd.prog.info? 9).map (fun i => (i.zero, i.size, i.bytes)) = some (some (.string ⟨#[]⟩), 1, 16) := by kernel_rfl

/-- number, at whatever place: what is told, and where the scan is then. -/
theorem number_all (w0 : World) (g : Nat) (A : Option Addr) (b : List Int) (c : Nat) (at_ : Nat) (mark : ByteArray) (low high : Int) (w : World) (hLd : Ld w0) (hb : BC w0 A b) (hB : Below w0.heap.size w0 w) (hg : w0.heap.size ≤ g) (hc : b.length ≤ c) (hlen : b.length ≤ 1000000) (hat : at_ ≤ b.length)
    (hs : ScAt w g A b c at_ false false) :
    Calls Tryd.prog 36 #[.pointer (some ⟨g, 0, none⟩), .string mark, .int .i64 low, .int .i64 high] w fun e w' => ∃ (k : Int) (a1 : Nat) (sh bd : Bool), e = .returned (.int .i64 k) ∧ ScTo w w' g A b c a1 sh bd ∧ a1 ≤ b.length ∧
      Aside0 ((lineN (b.drop at_) < 0 ∧ k = 0 ∧ sh = decide (b.length - at_ < 16) ∧ bd = !sh) ∨ (0 ≤ lineN (b.drop at_) ∧ k = numK (b.drop at_) mark ∧ a1 = at_ + (lineN (b.drop at_)).toNat + 1 ∧ sh = false ∧ bd = numBad (b.drop at_) mark low high)) := by
  have hb' : BC w A b := Kd.C_below hb hB
  rcases line_lt (b.drop at_) with h | ⟨h0, h1, h2⟩
  · refine (number_none g A b c at_ mark low high w hb' hc hlen hat hs h _ rfl).mono ?_
    rintro e w' ⟨rfl, hs'⟩
    exact ⟨_, _, _, _, rfl, hs', hat, ⟨.inl ⟨h, rfl, rfl, rfl⟩⟩⟩
  · refine (number_some g A b c at_ mark low high w (hLd.below hB) hb' hc hlen hat hs h0 h2 _ rfl).mono ?_
    rintro e w' ⟨rfl, hs'⟩
    have h3 : (b.drop at_).length = b.length - at_ := List.length_drop
    have e1 : (at_ : Int) + lineN (b.drop at_) + 1 = ((at_ + (lineN (b.drop at_)).toNat + 1 : Nat) : Int) := by omega
    rw [e1] at hs'
    exact ⟨_, _, _, _, rfl, hs', by omega, ⟨.inr ⟨h0, rfl, rfl, rfl, rfl⟩⟩⟩

theorem below_kp {w0 w1 w2 : World} {g : Nat} (h : Below w0.heap.size w0 w1) (k : Kp (· = g) w1 w2) (hg : w0.heap.size ≤ g) : Below w0.heap.size w0 w2 :=
  ((Kp.of_below (S := (· = g)) h).trans k).below fun i hi => by rw [hi]; exact hg

theorem row_kp {w w1 : World} {base g : Nat} {v : Value} {xs : List ByteArray} {cs : Array Value} {t : TypeId} (h : Kd.R Kd.string 9 w base (fun _ => True) v xs) (hs : w.heap[g]? = some (.cells cs t (0, 0))) (ht : 9 ≠ t) (k : Kp (· = g) w w1) :
    Kd.R Kd.string 9 w1 base (fun _ => True) v xs :=
  Kd.R_mono (Kd.R_step (Kd.R_types h hs (fun q hq => by
    rcases List.mem_cons.1 hq with rfl | hq
    · exact ht
    · cases hq)) (fun i hi hlt => k.block i hlt hi.2)) (fun _ _ => trivial)

set_option maxHeartbeats 8000000 in
set_option maxRecDepth 100000 in
theorem row_walk (A : Option Addr) (b : List Int) (c : Nat) (w : World) (hLd : Ld w) (hb : BC w A b) (hc : b.length ≤ c) (hlen : b.length ≤ 1000000) (r1 : List ByteArray) (r2 r3 : Int) (hr : rowB b = (r1, r2, r3)) :
    Calls Tryd.prog 26 #[.slice A b.length c] w fun e w' => ∃ v0_ : Value, e = .returned (.tuple #[v0_, .int .i64 r2, .int .i64 r3]) ∧ Kd.R Kd.string 9 w' w.heap.size (fun _ => True) v0_ r1 ∧ Below w.heap.size w w' := by
  have HL := Aside0.mk hLd
  have HBC := Aside0.mk hb
  have HR := Aside0.mk hr
  clear hLd hb hr
  go_enter Tryd.func26, Tryd.ntmps26
  go_wp2_with fail
  go_step3
  go_wp2_with fail
  go_step3
  go_wp2_with fail
  have hg0 : (w.alloc (.cells #[.slice A b.length c, .int .i64 0, .bool false, .bool false] 63)).heap[w.heap.size]? = some (.cells #[.slice A b.length c, .int .i64 0, .bool false, .bool false] 63 (0, 0)) := blk_new _ _
  refine (number_all w w.heap.size A b c 0 ⟨#[42]⟩ 1 32 _ HL.out HBC.out (below_alloc (Below.refl _ _) _) (Nat.le_refl _) hc hlen (by omega) hg0).mono ?_
  clear hg0
  rintro e w1 ⟨k, a1, sh, bd, rfl, hS, ha, hK⟩
  obtain ⟨hS1, hS2⟩ := hS
  have hb1 := below_kp (below_alloc (Below.refl _ _) _) hS2 (Nat.le_refl _)
  have H1 : Aside0 (rowS b k.toNat a1 sh bd [] = (r1, r2, r3) ∧ (bd = false → 0 + k.toNat ≤ 32) ∧ a1 ≤ b.length) := by
    rw [← HR.out]
    refine ⟨?_, ?_, ha⟩
    · unfold rowB
      rcases hK.out with ⟨h1, rfl, rfl, rfl⟩ | ⟨h1, rfl, rfl, rfl, rfl⟩
      · simp only [List.drop_zero] at h1
        rw [if_pos h1]
        by_cases h : b.length < 16 <;> simp [rowS, h]
      · simp only [List.drop_zero] at h1 ⊢
        rw [if_neg (by omega)]
        unfold rowS
        simp
    · intro hbd
      rcases hK.out with ⟨h1, rfl, rfl, rfl⟩ | ⟨h1, rfl, rfl, rfl, rfl⟩
      · simp
      · have := good_K hbd
        omega
  have HS1 := Aside0.mk hS1
  have HB1 := Aside0.mk hb1
  clear hS1 hS2 hb1 hK ha
  obtain ⟨g, hg⟩ : ∃ g, g = w.heap.size := ⟨_, rfl⟩
  rw [← hg] at HS1 ⊢
  have HG := Aside0.mk hg
  clear hg
  go_wp2_with fail
  go_loopw [6, 7, 8] (fun v6 v7 _ wr => ∃ (left : Int) (a : Nat) (s1 b1 : Bool) (l : List ByteArray), v7 = .int .i64 left ∧ Aside0 (ScAt wr g A b c a s1 b1) ∧ Aside0 (rowS b left.toNat a s1 b1 l = (r1, r2, r3) ∧ (b1 = false → l.length + left.toNat ≤ 32) ∧ a ≤ b.length) ∧ Aside0 (Kd.R Kd.string 9 wr w.heap.size (fun _ => True) v6 l) ∧ Aside0 (Below w.heap.size w wr)) (fun _ v7 _ _ => (intOf v7).toNat)
  case atStart => exact ⟨k, a1, sh, bd, [], rfl, HS1, H1, ⟨Kd.R_nil _ _ _ _ _⟩, HB1⟩
  case round =>
    clear HS1 H1 HB1 HR
    obtain ⟨left, a, s1, b1, l, rfl, HS, HR, HRow, HB⟩ := hrel
    have c1 : wr.cell? ⟨g, 1, none⟩ = some (.int .i64 a) := (pw_cells HS.out 1).1
    have c2 : wr.cell? ⟨g, 2, none⟩ = some (.bool s1) := (pw_cells HS.out 2).1
    have c3 : wr.cell? ⟨g, 3, none⟩ = some (.bool b1) := (pw_cells HS.out 3).1
    by_cases hl0 : 0 < left
    · cases b1
      · cases s1
        · have hl1 : left.toNat = (left.toNat - 1) + 1 := by omega
          have hdone := HR.out.1
          rw [hl1] at hdone
          simp only [rowS, rowL, Bool.false_eq_true, if_false] at hdone
          have HD := Aside0.mk hdone
          have HN := Aside0.mk (show l.length + left.toNat ≤ 32 ∧ a ≤ b.length from ⟨HR.out.2.1 rfl, HR.out.2.2⟩)
          have hl2 : left ≤ 32 := by have := HR.out.2.1 rfl; omega
          clear HR hdone hl1
          go_wp2_with fail
          refine (number_all w g A b c a ⟨#[36]⟩ 0 512 _ HL.out HBC.out HB.out (by rw [HG.out]; exact Nat.le_refl _) hc hlen HN.out.2 HS.out).mono ?_
          rintro e w1 ⟨k, a1, sh, bd, rfl, hS, ha, hK⟩
          obtain ⟨hS1, hS2⟩ := hS
          have hb1 := below_kp HB.out hS2 (by rw [HG.out]; exact Nat.le_refl _)
          have hr1 := row_kp HRow.out HS.out (by decide) hS2
          have HS1 := Aside0.mk hS1
          have HB1 := Aside0.mk hb1
          have HR1 := Aside0.mk hr1
          clear hS2 hb1 hr1 c1 c2 c3 HS HB HRow
          have c1 : w1.cell? ⟨g, 1, none⟩ = some (.int .i64 a1) := (pw_cells hS1 1).1
          have c2 : w1.cell? ⟨g, 2, none⟩ = some (.bool sh) := (pw_cells hS1 2).1
          have c3 : w1.cell? ⟨g, 3, none⟩ = some (.bool bd) := (pw_cells hS1 3).1
          clear hS1
          cases bd
          · cases sh
            · have hK2 : 0 ≤ lineN (b.drop a) ∧ k = numK (b.drop a) ⟨#[36]⟩ ∧ a1 = a + (lineN (b.drop a)).toNat + 1 ∧ numBad (b.drop a) ⟨#[36]⟩ 0 512 = false := by
                rcases hK.out with ⟨h1, rfl, h2, h3⟩ | ⟨h1, rfl, rfl, h2, h3⟩
                · cases h3
                · exact ⟨h1, rfl, rfl, h3.symm⟩
              obtain ⟨h1, hk, ha1, h3⟩ := hK2
              have h4 := good_K h3
              rw [← hk] at h4
              have hdone := HD.out
              rw [if_neg (by omega), if_neg (by rw [h3]; decide), ← ha1, ← hk] at hdone
              clear HD hK h1 h3 hk
              obtain ⟨n, rfl⟩ := Int.eq_ofNat_of_zero_le h4.1
              simp only [Int.toNat_natCast] at hdone
              have hn : n ≤ 512 := by omega
              clear h4
              have HA1 := Aside0.mk ha1
              clear ha1
              by_cases hsh : b.length < a1 + n + 2
              · go_wp2_with fail
                refine (word_short g A b c a1 n _ (Kd.C_below HBC.out HB1.out) hc hlen ha (by omega) HS1.out hsh).mono ?_
                rintro e w2 ⟨rfl, hS⟩
                obtain ⟨hS1, hS2⟩ := hS
                have hb2 := below_kp HB1.out hS2 (by rw [HG.out]; exact Nat.le_refl _)
                have hr2 := row_kp HR1.out HS1.out (by decide) hS2
                have HS2 := Aside0.mk hS1
                have HB2 := Aside0.mk hb2
                have HR2 := Aside0.mk hr2
                clear hS1 hS2 hb2 hr2 c1 c2 c3 HS1 HB1 HR1
                go_wp2_with (at_builtin; refine Kd.R_append Kd.string (w0 := w) w.heap.size rfl (.tmp 40) (.tmp 44) 25 9 (.string ⟨#[]⟩) 16 rfl Tryd.underlying25 infoS rfl (by decide) (by omega) _ l ⟨#[]⟩ [.string ⟨#[]⟩] (fun _ => True) (fun _ => False) rfl rfl rfl (fun _ hk => hk.elim) (fun _ _ => trivial) HR2.out HB2.out HB2.out.size (by have := HN.out.1; omega) ?_; intro v1 w3 ho hb hgr hat; have HS3 := Aside0.mk (blk_grown HS2.out hgr (Kd.R_ne HR2.out HS2.out (by decide))); have HO3 := Aside0.mk ho; have HB3 := Aside0.mk hb; clear ho hb hgr hat)
                go_roundw
                case rel =>
                  refine ⟨left - 1, _, _, _, l ++ [⟨#[]⟩], by go_num, HS3, ⟨?_, ?_, ?_⟩, HO3, HB3⟩
                  · rw [if_pos hsh] at hdone
                    rw [← hdone]
                    rfl
                  · intro _
                    have := HN.out.1
                    simp
                    omega
                  · exact ha
                case measure => simp [intOf]; omega
              · rw [if_neg hsh] at hdone
                obtain ⟨wb, hwb⟩ : ∃ wb, wordBad (b.drop a1) n = wb := ⟨_, rfl⟩
                rw [hwb] at hdone
                have HDN := Aside0.mk hdone
                have HWB := Aside0.mk hwb
                clear hdone hwb
                go_wp2_with fail
                refine (word_some w g A b c a1 n _ HBC.out HB1.out (by rw [HG.out]; exact Nat.le_refl _) hc hlen ha (by omega) HS1.out (by omega) _ HWB.out).mono ?_
                rintro e w2 ⟨rfl, hS⟩
                obtain ⟨hS1, hS2⟩ := hS
                have hb2 := below_kp HB1.out hS2 (by rw [HG.out]; exact Nat.le_refl _)
                have hr2 := row_kp HR1.out HS1.out (by decide) hS2
                have HS2 := Aside0.mk hS1
                have HB2 := Aside0.mk hb2
                have HR2 := Aside0.mk hr2
                clear hS1 hS2 hb2 hr2 c1 c2 c3 HS1 HB1 HR1
                go_wp2_with (at_builtin; refine Kd.R_append Kd.string (w0 := w) w.heap.size rfl (.tmp 40) (.tmp 44) 25 9 (.string ⟨#[]⟩) 16 rfl Tryd.underlying25 infoS rfl (by decide) (by omega) _ l (strOfNums ((b.drop a1).take n)) [.string (strOfNums ((b.drop a1).take n))] (fun _ => True) (fun _ => False) rfl rfl rfl (fun _ hk => hk.elim) (fun _ _ => trivial) HR2.out HB2.out HB2.out.size (by have := HN.out.1; omega) ?_; intro v1 w3 ho hb hgr hat; have HS3 := Aside0.mk (blk_grown HS2.out hgr (Kd.R_ne HR2.out HS2.out (by decide))); have HO3 := Aside0.mk ho; have HB3 := Aside0.mk hb; clear ho hb hgr hat)
                go_roundw
                case rel =>
                  refine ⟨left - 1, a1 + n + 2, false, wb, l ++ [(strOfNums ((b.drop a1).take n))], by go_num, ⟨by have e : ((a1 + n + 2 : Nat) : Int) = a1 + n + 2 := (by omega); rw [e]; exact HS3.out⟩, ⟨?_, ?_, ?_⟩, HO3, HB3⟩
                  · rw [← HDN.out]
                    have e1 : (left - 1).toNat = left.toNat - 1 := by omega
                    cases wb <;> simp [rowS, e1]
                  · intro _
                    have := HN.out.1
                    simp
                    omega
                  · omega
                case measure => simp [intOf]; omega
            · have hdone := HD.out
              have hx : lineN (b.drop a) < 0 ∧ b.length - a < 16 := by
                rcases hK.out with ⟨h1, rfl, h2, h3⟩ | ⟨h1, rfl, rfl, h2, h3⟩
                · exact ⟨h1, of_decide_eq_true h2.symm⟩
                · cases h2
              rw [if_pos hx.1, if_pos hx.2] at hdone
              obtain ⟨rfl, h5⟩ := Prod.mk.inj hdone
              obtain ⟨rfl, rfl⟩ := Prod.mk.inj h5
              clear hdone HD hx hK
              go_wp2_with fail
              all_goals (try rw [Exit.noGoto_ret])
              all_goals go_ret3
              all_goals exact ⟨_, rfl, Kd.R_nil _ _ _ _ _, HB1.out⟩
          · have hdone := HD.out
            have hx : ([], 0, 10) = (r1, r2, r3) := by
              rcases hK.out with ⟨h1, rfl, h2, h3⟩ | ⟨h1, rfl, rfl, h2, h3⟩
              · rw [if_pos h1] at hdone
                cases sh
                · rw [if_neg (of_decide_eq_false h2.symm)] at hdone
                  exact hdone
                · cases h3
              · rw [if_neg (by omega), if_pos h3.symm] at hdone
                exact hdone
            obtain ⟨rfl, h5⟩ := Prod.mk.inj hx
            obtain ⟨rfl, rfl⟩ := Prod.mk.inj h5
            clear hdone HD hx hK
            go_wp2_with fail
            all_goals (try rw [Exit.noGoto_ret])
            all_goals go_ret3
            all_goals exact ⟨_, rfl, Kd.R_nil _ _ _ _ _, HB1.out⟩
        · obtain ⟨e1, -, -⟩ := HR.out
          simp [rowS] at e1
          obtain ⟨rfl, rfl, rfl⟩ := e1
          clear HR
          go_wp2_with fail
          all_goals (try rw [Exit.noGoto_ret])
          all_goals go_ret3
          all_goals exact ⟨_, rfl, Kd.R_nil _ _ _ _ _, HB.out⟩
      · obtain ⟨e1, -, -⟩ := HR.out
        simp [rowS] at e1
        obtain ⟨rfl, rfl, rfl⟩ := e1
        clear HR
        go_wp2_with fail
        all_goals (try rw [Exit.noGoto_ret])
        all_goals go_ret3
        all_goals exact ⟨_, rfl, Kd.R_nil _ _ _ _ _, HB.out⟩
    · cases b1
      · cases s1
        · go_wp2_with fail
          go_quiet (fail)
          go_wp2_with fail
          rw [Exit.noGoto_ret]
          go_ret3
          obtain ⟨e1, -, -⟩ := HR.out
          have e0 : left.toNat = 0 := by omega
          simp [rowS, rowL, e0] at e1
          obtain ⟨rfl, rfl, rfl⟩ := e1
          exact ⟨_, rfl, Kd.R_drewN HRow.out _, pw_below_drewN HB.out _⟩
        · go_wp2_with fail
          go_ret3
          obtain ⟨e1, -, -⟩ := HR.out
          simp [rowS] at e1
          obtain ⟨rfl, rfl, rfl⟩ := e1
          exact ⟨_, rfl, Kd.R_nil _ _ _ _ _, HB.out⟩
      · go_wp2_with fail
        go_ret3
        obtain ⟨e1, -, -⟩ := HR.out
        simp [rowS] at e1
        obtain ⟨rfl, rfl, rfl⟩ := e1
        exact ⟨_, rfl, Kd.R_nil _ _ _ _ _, HB.out⟩

theorem frame_row.calls (A0 : Option Addr) (c0 : Nat) (l0 : List Int) (r1 : List ByteArray) (r2 r3 : Int) (w : World) (hr0 : Kd.C (Kd.int .u8) w A0 l0.length l0) (hc0 : l0.length ≤ c0) (hLd : Ld w) (h : frame_row.f l0 = some (r1, r2, r3)) :
    Calls Tryd.prog 26 #[.slice A0 l0.length c0] w fun e w' => ∃ v0_ : Value, e = .returned (.tuple #[v0_, .int .i64 r2, .int .i64 r3]) ∧ Kd.R Kd.string 9 w' w.heap.size (fun _ => True) v0_ r1 ∧ Below w.heap.size w w' := by
  unfold frame_row.f at h
  split at h
  · rename_i hl
    exact row_walk A0 l0 c0 w hLd hr0 hc0 hl r1 r2 r3 (Option.some.inj h)
  · cases h
end Go.Proofs.YtmbfapgamcbajaaDoor.X
