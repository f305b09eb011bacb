/- table.Find: what it computes. -/
import Derived.Test.YtencimfeipglaaaDoorETab
import Derived.Test.YtencimfeipglaaaDoorELow
import Derived.Test.YtencimfeipglaaaDoorKp
import Derived.LoopTactic
set_option linter.unusedVariables false
set_option linter.unusedSimpArgs false
namespace Go.Proofs.YtencimfeipglaaaDoor.X
open Go.RowKit Go.Proofs.YtencimfeipglaaaDoorW.PrintWords Go.Proofs.YtencimfeipglaaaDoorW.PrintLast Go.Proofs.YtencimfeipglaaaDoorW.PrintMore

/-- The place of a name among commands; -1: nowhere. -/
def idxN : List S31 → ByteArray → Int
  | [], _ => -1
  | c :: l, nm => if c.f0.toList == nm.toList then 0 else if idxN l nm == -1 then -1 else idxN l nm + 1
theorem idxN_ge (l : List S31) (nm : ByteArray) : -1 ≤ idxN l nm := by
  induction l with
  | nil => exact Int.le_refl _
  | cons c l ih =>
    unfold idxN
    split
    · omega
    · split
      · omega
      · omega
theorem idxN_at (l : List S31) (nm : ByteArray) : ∀ k : Nat, k < l.length → (∀ j, j < k → ((l.getD j z31).f0.toList == nm.toList) = false) → ((l.getD k z31).f0.toList == nm.toList) = true → idxN l nm = k := by
  induction l with
  | nil => intro k h; simp at h
  | cons c l ih =>
    intro k hk hj hh
    cases k with
    | zero => unfold idxN; rw [if_pos (by simpa using hh)]; rfl
    | succ k =>
      have h0 := hj 0 (by omega)
      have := ih k (by simpa using hk) (fun j hjk => by simpa using hj (j + 1) (by omega)) (by simpa using hh)
      unfold idxN
      rw [if_neg (by simpa using h0), this]
      split
      · rename_i h1
        rw [beq_iff_eq] at h1
        omega
      · omega
theorem idxN_none (l : List S31) (nm : ByteArray) (hj : ∀ j, j < l.length → ((l.getD j z31).f0.toList == nm.toList) = false) : idxN l nm = -1 := by
  induction l with
  | nil => rfl
  | cons c l ih =>
    have h0 := hj 0 (by simp)
    have := ih (fun j h => by simpa using hj (j + 1) (by simpa using h))
    unfold idxN
    rw [if_neg (by simpa using h0), this]
    rfl

set_option maxHeartbeats 1000000 in
theorem is_name (x : S31) (g : Nat) (nm : ByteArray) (w : World) (hg : w.cell? ⟨g, 0, none⟩ = some (.string nm)) (b : Bool) (hb : (x.f0.toList == nm.toList) = b) :
    Calls Tryd.prog 100 #[.agg #[.string x.f0, .int .i64 x.f1, .int .u16 x.f2], .pointer (some ⟨g, 0, none⟩)] w fun e w' => e = .returned (.bool b) ∧ Below w.heap.size w w' := by
  have hu := Tryd.underlying31
  have hlt := World.block_lt_of_cell? w _ hg
  have hb1 : Below w.heap.size w (w.alloc (.cells #[.string x.f0, .int .i64 x.f1, .int .u16 x.f2] 31)) := below_alloc (Below.refl _ _) _
  have hg1 : (w.alloc (.cells #[.string x.f0, .int .i64 x.f1, .int .u16 x.f2] 31)).cell? ⟨g, 0, none⟩ = some (.string nm) := (hb1.cell hlt).trans hg
  have HB := Aside0.mk hb1
  clear hb1 hlt
  obtain ⟨c0, c1, c2⟩ := x
  simp only at *
  go_enter Tryd.func100, Tryd.ntmps100
  go_wp2
  go_ret
  exact ⟨by first | rfl | rw [hb], HB.out⟩

set_option maxHeartbeats 2000000 in
set_option maxRecDepth 100000 in
theorem index_name (A : Option Addr) (c : Nat) (l : List S31) (g : Nat) (nm : ByteArray) (w : World) (hl : Kd.C k31 w A l.length l) (hm : l.length ≤ 1000000) (hg : w.cell? ⟨g, 0, none⟩ = some (.string nm)) :
    Calls Tryd.prog 99 #[.slice A l.length c, .func (.func 100) #[] #[.pointer (some ⟨g, 0, none⟩)]] w fun e w' => e = .returned (.int .i64 (idxN l nm)) ∧ Below w.heap.size w w' := by
  have hu := Tryd.underlying31
  have HL := Aside0.mk hl
  have HG := Aside0.mk hg
  have HM := Aside0.mk hm
  clear hl hg hm
  go_enter Tryd.func99, Tryd.ntmps99
  go_wp2
  go_loopw [8] (fun v8 wr => ∃ k : Nat, k ≤ l.length ∧ v8 = .int .i64 k ∧ Aside0 (∀ j, j < k → ((l.getD j z31).f0.toList == nm.toList) = false) ∧ Aside0 (Below w.heap.size w wr)) (fun v8 _ => l.length - (intOf v8).toNat)
  case atStart => exact ⟨0, Nat.zero_le _, rfl, ⟨fun j h => absurd h (Nat.not_lt_zero _)⟩, ⟨Below.refl _ _⟩⟩
  case round =>
    obtain ⟨k, hk, rfl, HJ, HB⟩ := hrel
    have hm := HM.out
    by_cases hlt : k < l.length
    · have hkI : (k : Int) < l.length := by omega
      obtain ⟨ad, e0, hc0, hc1, hc2⟩ := at_T31 (Kd.C_below HL.out HB.out) k (by omega) hkI
      subst e0
      simp only [Int.toNat_natCast] at hc0 hc1 hc2
      obtain ⟨x, hx⟩ : ∃ x, rd_T31 l k = x := ⟨_, rfl⟩
      rw [hx] at hc0 hc1 hc2
      have hx' : l.getD k z31 = x := by rw [← hx]; rfl
      have HX := Aside0.mk hx'
      have hcg := (HB.out.cell (World.block_lt_of_cell? w _ HG.out)).trans HG.out
      have HCG := Aside0.mk hcg
      clear hx hx' hcg
      cases hb : (x.f0.toList == nm.toList)
      · have HQ := Aside0.mk hb
        clear hb
        go_wp2_with (go_at_call 100; refine (is_name x g nm _ HCG.out false HQ.out).mono ?_; rintro e w1 ⟨rfl, hb1⟩; have HB1 := Aside0.mk (below_then HB.out HB.out.size hb1); clear hb1)
        go_roundw
        case rel =>
          refine ⟨k + 1, by omega, by go_num, ⟨fun j hj => ?_⟩, HB1⟩
          rcases (by omega : j < k ∨ j = k) with h | rfl
          · exact HJ.out j h
          · rw [HX.out]; exact HQ.out
        case measure => simp [intOf]; omega
      · have HQ := Aside0.mk hb
        clear hb
        go_wp2_with (go_at_call 100; refine (is_name x g nm _ HCG.out true HQ.out).mono ?_; rintro e w1 ⟨rfl, hb1⟩; have HB1 := Aside0.mk (below_then HB.out HB.out.size hb1); clear hb1)
        go_ret
        have := idxN_at l nm k hlt HJ.out (by rw [HX.out]; exact HQ.out)
        rw [this]
        exact ⟨rfl, HB1.out⟩
    · obtain rfl : k = l.length := by omega
      have hkI : ¬ ((l.length : Int) < l.length) := by omega
      go_wp2
      go_ret
      rw [idxN_none l nm HJ.out]
      exact ⟨rfl, HB.out⟩

theorem cmds_some : table_commands.f = some cmdsL := rfl
def findB (nm : ByteArray) : Int := idxN cmdsL (lowB nm)
def table_Find.f (a0 : ByteArray) : Option (Int × Bool) := if a0.size ≤ 140737488355327 then some (findB a0, decide (0 ≤ findB a0)) else none

set_option maxHeartbeats 2000000 in
theorem table_Find.calls (a0 : ByteArray) (r1 : Int) (r2 : Bool) (w : World) (h : table_Find.f a0 = some (r1, r2)) :
    Calls Tryd.prog 83 #[.string a0] w fun e w' => e = .returned (.tuple #[.int .i64 r1, .bool r2]) ∧ Below w.heap.size w w' := by
  unfold table_Find.f at h
  split at h
  · rename_i hh
    obtain ⟨rfl, rfl⟩ := Prod.mk.inj (Option.some.inj h)
    clear h
    unfold findB
    have HLo := Aside0.mk (show num_Lower.f a0 = some (lowB a0) by unfold num_Lower.f; rw [if_pos hh])
    obtain ⟨nm, hnm⟩ : ∃ nm, lowB a0 = nm := ⟨_, rfl⟩
    rw [hnm] at HLo ⊢
    obtain ⟨L, hL⟩ : ∃ L, cmdsL = L := ⟨_, rfl⟩
    have HC := Aside0.mk cmds_some
    have HN := Aside0.mk cmds_len
    rw [hL] at HC HN ⊢
    obtain ⟨q, hq⟩ : ∃ q, idxN L nm = q := ⟨_, rfl⟩
    have HQ := Aside0.mk hq
    rw [hq]
    clear hnm hL hq hh
    have hb0 := below_alloc (Below.refl w.heap.size w) (.cells #[.string a0] 9)
    have HB0 := Aside0.mk hb0
    clear hb0
    go_enter Tryd.func83, Tryd.ntmps83
    go_wp2_with fail
    refine (num_Lower.calls a0 nm _ HLo.out).mono ?_
    rintro e w1 ⟨rfl, hb1⟩
    have hblk : w1.heap[w.heap.size]? = some (.cells #[.string a0] 9 (0, 0)) := by
      have hnew := heap_alloc_new w (.cells #[.string a0] 9)
      rw [hb1.block _ (Array.getElem?_eq_some_iff.1 hnew).1]
      exact hnew
    have g0 : w1.cell? ⟨w.heap.size, 0, none⟩ = some (.string a0) := (pw_cells hblk 0).1
    have f0 : w1.frozen? ⟨w.heap.size, 0, none⟩ = false := (pw_cells hblk 0).2
    have hb2 : Below w.heap.size w w1 := below_then HB0.out HB0.out.size hb1
    have HB2 := Aside0.mk (below_set hb2 (Nat.le_refl _) : Below w.heap.size w (w1.setCell ⟨w.heap.size, 0, none⟩ (.string nm)))
    have HK := Aside0.mk (blk_set hblk 0 (.string nm))
    clear hb1 hb2 hblk
    go_wp2_with fail
    refine (table_commands.calls L _ HC.out).mono ?_
    rintro e w2 ⟨v0, rfl, hR, hb3⟩
    obtain ⟨A, c, e0⟩ := Kd.R_slice hR
    subst e0
    have HR := Aside0.mk (Kd.R_reads' hR).2.2
    have hblk : w2.heap[w.heap.size]? = some (.cells #[.string nm] 9 (0, 0)) := by
      have := HK.out
      rw [hb3.block _ (World.block_lt_of_cell? _ ⟨w.heap.size, 0, none⟩ (pw_cells this 0).1)]
      simpa using this
    have HG := Aside0.mk (pw_cells hblk 0).1
    have HB3 := Aside0.mk (below_then HB2.out HB2.out.size hb3)
    clear hb3 hblk hR
    go_wp2_with fail
    refine (index_name A c L w.heap.size nm w2 HR.out (by rw [HN.out]; omega) HG.out).mono ?_
    rintro e w3 ⟨rfl, hb4⟩
    rw [HQ.out]
    have HB4 := Aside0.mk (below_then HB3.out HB3.out.size hb4)
    clear hb4
    go_wp2
    go_ret2
    exact ⟨rfl, HB4.out⟩
  · cases h
end Go.Proofs.YtencimfeipglaaaDoor.X
