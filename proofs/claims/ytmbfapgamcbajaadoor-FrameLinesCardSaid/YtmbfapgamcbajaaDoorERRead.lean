/- The law's read: what it gives. -/
import Derived.Test.YtmbfapgamcbajaaDoorEFShown
import Derived.Test.YtmbfapgamcbajaaDoorEFPut
import Derived.LoopTactic
import Derived.Test.YtmbfapgamcbajaaDoorERPut
set_option linter.unusedVariables false
set_option linter.unusedSimpArgs false
namespace Go.Proofs.YtmbfapgamcbajaaDoor.X
open Go.RowKit Go.Proofs.YtmbfapgamcbajaaDoorW.PrintWords

/-- A reader at g that has the bytes s. -/
def RdAt (w : World) (base g : Nat) (s : List Int) (bad : Bool) : Prop :=
  ∃ v, w.heap[g]? = some (.cells #[v, .bool bad] 60 (0, 0)) ∧ Kd.R (Kd.int .u8) 5 w base (fun _ => True) v s

theorem RdAt.lt {w : World} {base g : Nat} {s : List Int} {bad : Bool} (h : RdAt w base g s bad) : g < w.heap.size := by
  obtain ⟨v, h, _⟩ := h
  exact pw_lt h
theorem RdAt.below {w w1 : World} {base g : Nat} {s : List Int} {bad : Bool} (h : RdAt w base g s bad) (hb : Below w.heap.size w w1) : RdAt w1 base g s bad := by
  obtain ⟨v, h1, h2⟩ := h
  exact ⟨v, (hb.block g (pw_lt h1)).trans h1, Kd.R_below h2 hb⟩
theorem rd_new (w : World) : RdAt (w.alloc (.cells #[.slice none 0 0, .bool false] 60)) w.heap.size w.heap.size [] false :=
  ⟨.slice none 0 0, blk_new _ _, Kd.R_nil _ _ _ _ _⟩

/-- What is not of bytes stays when a row of bytes grows. -/
theorem fed_keep {w w1 : World} {b : Nat} {ok : Nat → Prop} {v : Value} {s : List Int} (h : Kd.R (Kd.int .u8) 5 w b ok v s) (hg : w.grownBy w1 v.ownBlock) (k : Nat) (cs : Array Value) (t : TypeId) (hk : w.heap[k]? = some (.cells cs t (0, 0))) (ht : t ≠ 5) : w1.heap[k]? = w.heap[k]? :=
  hg.block k (pw_lt hk) (Kd.R_ne h hk (Ne.symm ht))
set_option maxHeartbeats 4000000 in
set_option maxRecDepth 100000 in
theorem feed_any (w0 : World) (g : Nat) (A : Option Addr) (b : List Int) (c : Nat) (s : List Int) (bad : Bool) (w : World) (hg : w0.heap.size ≤ g) (hB : Below w0.heap.size w0 w) (hR : RdAt w w0.heap.size g s bad) (hb : BC w A b) (hc : b.length ≤ c) (hl : s.length + b.length ≤ 1000000) :
    Calls Tryd.prog 18 #[.pointer (some ⟨g, 0, none⟩), .slice A b.length c] w fun e w' => e = .returned (.tuple #[]) ∧ RdAt w' w0.heap.size g (s ++ b) bad ∧ Below w0.heap.size w0 w' ∧ ∀ (k : Nat) (cs : Array Value) (t : TypeId), w.heap[k]? = some (.cells cs t (0, 0)) → t ≠ 5 → k ≠ g → w'.heap[k]? = w.heap[k]? := by
  obtain ⟨v, h1, h2⟩ := hR
  have H1 := Aside0.mk h1
  have H2 := Aside0.mk h2
  have HB := Aside0.mk hB
  have HBC := Aside0.mk hb
  have g0 : w.cell? ⟨g, 0, none⟩ = some v := (pw_cells h1 0).1
  clear h1 h2 hB hb
  go_enter Tryd.func18, Tryd.ntmps18
  go_wp2_with (at_builtin; go_loud (refine Kd.R_append_rows (Kd.int .u8) (Rr := (Kd.int .u8).K w) (w0 := w0) w0.heap.size rfl (.tmp 8) (.tmp 9) 22 5 (.int .u8 0) 1 rfl Tryd.underlying22 infoB rfl (by decide) (by decide) v s b A b.length c (fun _ => True) (fun _ => False) rfl rfl H2.out HBC.out (fun _ _ h => h) (fun _ h => h.elim) (fun k hk => trivial) HB.out HB.out.size (by omega) ?_; intro v1 w1 ho hb1 hg1 hat; obtain ⟨A9, c9, e9⟩ := Kd.R_slice ho; obtain ⟨q9, hq9⟩ : ∃ q, (s ++ b).length = q := ⟨_, rfl⟩; rw [hq9] at e9; subst e9; clear hq9; have HO1 := Aside0.mk ho; have HB1 := Aside0.mk hb1; have H11 := Aside0.mk (blk_grown H1.out hg1 (Kd.R_ne H2.out H1.out (by decide))); have HG1 := Aside0.mk (fed_keep H2.out hg1); have f0 : w1.frozen? ⟨g, 0, none⟩ = false := (pw_cells H11.out 0).2; have g01 : w1.cell? ⟨g, 0, none⟩ = some v := (pw_cells H11.out 0).1; clear ho hb1 hg1 hat))
  go_end0
  refine ⟨rfl, ⟨.slice A9 q9 c9, ?_, Kd.R_mono (Kd.R_step (Kd.R_types HO1.out H11.out (by decide)) (fun k hk hlt => Below.heap_setCell _ _ _ _ hk.2)) (fun _ _ => trivial)⟩, HB1.out.setCell (p := ⟨g, 0, none⟩) hg _, fun k cs t hk ht hne => (Below.heap_setCell w1 ⟨g, 0, none⟩ _ k hne).trans (HG1.out k cs t hk ht)⟩
  simpa using blk_set H11.out 0 (.slice A9 q9 c9)

theorem left_any (base g : Nat) (s : List Int) (bad : Bool) (w : World) (hR : RdAt w base g s bad) :
    Calls Tryd.prog 22 #[.pointer (some ⟨g, 0, none⟩)] w fun e w' => e = .returned (.int .i64 s.length) ∧ w' = w := by
  obtain ⟨v, h1, h2⟩ := hR
  obtain ⟨A, c, rfl, _, _⟩ := Kd.R_reads h2
  have g0 : w.cell? ⟨g, 0, none⟩ = some (.slice A s.length c) := (pw_cells h1 0).1
  clear h1 h2
  go_enter Tryd.func22, Tryd.ntmps22
  go_wp2
  go_ret
  exact ⟨rfl, rfl⟩

theorem clone_any (A : Option Addr) (b : List Int) (c : Nat) (w : World) (hb : BC w A b) (hl : b.length ≤ 1000000) :
    Calls Tryd.prog 34 #[.slice A b.length c] w fun e w' => ∃ v' : Value, e = .returned v' ∧ Kd.R (Kd.int .u8) 5 w' w.heap.size (fun _ => True) v' b ∧ Below w.heap.size w w' := by
  obtain ⟨h1, h2, h3⟩ := Kd.reads_of_C (d := (0 : Int)) hb
  cases A with
  | none =>
    have h0 : b = [] := by
      cases b with
      | nil => rfl
      | cons q l' => obtain ⟨ad, e1, _⟩ := h3 (by simp); cases e1
    subst h0
    refine (Tryd.bytes_Clone_nil _ _ w).mono ?_
    rintro e w' ⟨rfl, rfl⟩
    exact ⟨_, rfl, Kd.R_nil _ _ _ _ _, Below.refl _ _⟩
  | some ad =>
    refine (Tryd.bytes_Clone_at ad b.length c b w rfl (by omega) (fun i hi => ?_)).mono ?_
    · obtain ⟨ad', e1, hc⟩ := h3 (by omega)
      cases e1
      exact hc i hi
    · rintro e w' ⟨v', rfl, ho, _, hB⟩
      exact ⟨v', rfl, Kd.R_of_own (by simpa [nums, encs] using ho) (fun _ _ => trivial), hB⟩

abbrev Rr := List ByteArray × List UInt8 × Bool × Int × Bool
/-- What a reader's Next gives of the bytes s, and what is left. -/
def readU : Nat → List UInt8 → Rr
  | 0, s => ([], s, false, 0, false)
  | k + 1, s =>
    if (nextU s).2.2 ≠ 0 then ([], s, false, 10, true)
    else if (nextU s).2.1 = 0 then ([], s, false, 0, false)
    else if (nextU s).1 ≠ [] then ((nextU s).1, s.drop (nextU s).2.1.toNat, true, 0, false)
    else readU k (s.drop (nextU s).2.1.toNat)
end Go.Proofs.YtmbfapgamcbajaaDoor.X
namespace Go.Proofs.YtmbfapgamcbajaaDoor.X
open Go.RowKit Go.Proofs.YtmbfapgamcbajaaDoorW.PrintWords

def rdMu (g : Nat) (w : World) : Nat :=
  match w.heap[g]? with
  | some (.cells cs _ _) => match cs.toList with
    | [.slice _ n _, .bool false] => n + 1
    | _ => 0
  | _ => 0
theorem rd_mu {w : World} {base g : Nat} {s : List Int} (h : RdAt w base g s false) : rdMu g w = s.length + 1 := by
  obtain ⟨v, h1, h2⟩ := h
  obtain ⟨A, c, rfl, _, _⟩ := Kd.R_reads h2
  unfold rdMu
  rw [h1]
theorem rd_mu_bad {w : World} {base g : Nat} {s : List Int} (h : RdAt w base g s true) : rdMu g w = 0 := by
  obtain ⟨v, h1, h2⟩ := h
  obtain ⟨A, c, rfl, _, _⟩ := Kd.R_reads h2
  unfold rdMu
  rw [h1]

theorem rd_keep {w : World} {base g : Nat} {v u : Value} {s : List Int} {cs : Array Value} (j : Nat) (h1 : w.heap[g]? = some (.cells cs 60 (0, 0))) (h2 : Kd.R (Kd.int .u8) 5 w base (fun _ => True) v s) :
    Kd.R (Kd.int .u8) 5 (w.setCell ⟨g, j, none⟩ u) base (fun _ => True) v s :=
  Kd.R_mono (Kd.R_step (Kd.R_types h2 h1 (by decide)) (fun k hk hlt => Below.heap_setCell _ _ _ _ hk.2)) (fun _ _ => trivial)
theorem rd_bad {w : World} {base g : Nat} {v : Value} {s : List Int} {bd : Bool} (h1 : w.heap[g]? = some (.cells #[v, .bool bd] 60 (0, 0))) (h2 : Kd.R (Kd.int .u8) 5 w base (fun _ => True) v s) :
    RdAt (w.setCell ⟨g, 1, none⟩ (.bool true)) base g s true := ⟨v, by simpa using blk_set h1 1 (.bool true), rd_keep 1 h1 h2⟩
theorem rd_put {w : World} {base g : Nat} {v v' : Value} {s : List Int} {bd : Bool} (h1 : w.heap[g]? = some (.cells #[v, .bool bd] 60 (0, 0))) (h2 : Kd.R (Kd.int .u8) 5 w base (fun _ => True) v' s) :
    RdAt (w.setCell ⟨g, 0, none⟩ v') base g s bd := ⟨v', by simpa using blk_set h1 0 v', rd_keep 0 h1 h2⟩

/-- Where a round of Next stands. -/
def RdSt (res : Rr) (s : List Int) (bad : Bool) : Prop :=
  (bad = false ∧ ∃ fuel, s.length < fuel ∧ readU fuel (U s) = res) ∨ (bad = true ∧ res = ([], U s, false, 10, true))

set_option maxHeartbeats 4000000 in
set_option maxRecDepth 100000 in
theorem rd_next (w0 : World) (hLd : Ld w0) (g : Nat) (s : List Int) (w : World) (hg : w0.heap.size ≤ g) (hB : Below w0.heap.size w0 w) (hR : RdAt w w0.heap.size g s false) (hl : s.length ≤ 1000000) (l : List ByteArray) (rest : List UInt8) (ok : Bool) (ee : Int) (bad : Bool) (hres : readU (s.length + 1) (U s) = (l, rest, ok, ee, bad)) :
    Calls Tryd.prog 23 #[.pointer (some ⟨g, 0, none⟩)] w fun e w' => ∃ v : Value, e = .returned (.tuple #[v, .bool ok, .int .i64 ee]) ∧ Kd.R Kd.string 9 w' w.heap.size (fun _ => True) v l ∧ (∃ s' : List Int, U s' = rest ∧ s'.length ≤ 1000000 ∧ RdAt w' w0.heap.size g s' bad) ∧ Kp (· = g) w w' ∧ Below w0.heap.size w0 w' := by
  have HL := Aside0.mk hLd
  have HR := Aside0.mk hR
  have HRES := Aside0.mk (show RdSt (l, rest, ok, ee, bad) s false from .inl ⟨rfl, s.length + 1, Nat.lt_succ_self _, hres⟩)
  have HB0 := Aside0.mk hB
  have hg' := hg
  clear hLd hR hres hB
  go_enter Tryd.func23, Tryd.ntmps23
  go_wp2
  go_loopw [] (fun wr => ∃ (s' : List Int) (bd : Bool), Aside0 (RdAt wr w0.heap.size g s' bd) ∧ Aside0 (Kp (· = g) w wr) ∧ Aside0 (Below w0.heap.size w0 wr) ∧ Aside0 (RdSt (l, rest, ok, ee, bad) s' bd) ∧ s'.length ≤ 1000000) (fun wr => rdMu g wr)
  case atStart => exact ⟨s, false, HR, ⟨Kp.refl _ _⟩, HB0, HRES, hl⟩
  case round =>
    obtain ⟨s', bd, HR', HK, HB, HST, hl'⟩ := hrel
    cases bd with
    | true =>
      rcases HST.out with ⟨h, _⟩ | ⟨_, h⟩
      · cases h
      have HE := Aside0.mk h
      clear h
      obtain ⟨v, h1, h2⟩ := HR'.out
      have g1 : wr.cell? ⟨g, 1, none⟩ = some (.bool true) := (pw_cells h1 1).1
      clear h1 h2
      go_wp2
      go_ret3
      have h9 := HE.out
      simp only [Prod.mk.injEq] at h9
      obtain ⟨rfl, rfl, rfl, rfl, rfl⟩ := h9
      exact ⟨_, rfl, Kd.R_nil _ _ _ _ _, ⟨s', rfl, hl', HR'.out⟩, HK.out, HB.out⟩
    | false =>
      rcases HST.out with ⟨_, fuel, hf, hru⟩ | ⟨h, _⟩
      rotate_left
      · cases h
      obtain ⟨k, rfl⟩ : ∃ k, fuel = k + 1 := ⟨fuel - 1, by omega⟩
      obtain ⟨v, h1, h2⟩ := HR'.out
      obtain ⟨A, c, rfl, hc, hC⟩ := Kd.R_reads h2
      obtain ⟨r1, r2, r3, hr⟩ : ∃ r1 r2 r3, nextB s' = (r1, r2, r3) := ⟨_, _, _, rfl⟩
      have hU := nextB_U s'
      rw [hr] at hU
      have HRU := Aside0.mk hru
      have HU := Aside0.mk hU
      have HRR := Aside0.mk hr
      have HCC := Aside0.mk hC
      have H1 := Aside0.mk h1
      have g0 : wr.cell? ⟨g, 0, none⟩ = some (.slice A s'.length c) := (pw_cells h1 0).1
      have g1 : wr.cell? ⟨g, 1, none⟩ = some (.bool false) := (pw_cells h1 1).1
      have HRV := Aside0.mk h2
      clear h1 h2 hC hr hU hru
      go_wp2_with fail
      refine (next_any A s' c wr (HL.out.below HB.out) HCC.out hc hl' r1 r2 r3 HRR.out).mono ?_
      rintro e w2 ⟨v2, rfl, hR2, hB2⟩
      obtain ⟨A2, c2, rfl, hc2, hC2⟩ := Kd.R_reads hR2
      obtain ⟨m2, hm2⟩ : ∃ m, r1.length = m := ⟨_, rfl⟩
      have HM2 := Aside0.mk hm2
      rw [hm2] at hR2 hc2
      have HR2 := Aside0.mk hR2
      have HB2 := Aside0.mk hB2
      have H12 := Aside0.mk ((hB2.block g (pw_lt H1.out)).trans H1.out)
      have HCC2 := Aside0.mk (Kd.C_below HCC.out hB2)
      have HK2 := Aside0.mk (HK.out.trans (Kp.of_below (S := (· = g)) hB2))
      have HBW2 := Aside0.mk (below_then HB.out HB.out.size hB2)
      have g02 : w2.cell? ⟨g, 0, none⟩ = some (.slice A s'.length c) := (pw_cells H12.out 0).1
      have g12 : w2.cell? ⟨g, 1, none⟩ = some (.bool false) := (pw_cells H12.out 1).1
      have f02 : w2.frozen? ⟨g, 0, none⟩ = false := (pw_cells H12.out 0).2
      have f12 : w2.frozen? ⟨g, 1, none⟩ = false := (pw_cells H12.out 1).2
      clear hm2 hR2 hB2 hC2 g0 g1
      rcases next_fits (U s') with h | h | ⟨l', n, h, hn1, hn2, hn3⟩
      · rw [h] at HU
        have h9 := HU.out
        simp only [Prod.mk.injEq] at h9
        obtain ⟨rfl, rfl, rfl⟩ := h9
        go_wp2_with fail
        go_ret3
        have h8 := HRU.out
        unfold readU at h8
        rw [h] at h8
        simp at h8
        obtain ⟨rfl, rfl, rfl, rfl, rfl⟩ := h8
        exact ⟨_, rfl, Kd.R_nil _ _ _ _ _, ⟨s', rfl, hl', ⟨_, H12.out, Kd.R_below HRV.out HB2.out⟩⟩, HK2.out, HBW2.out⟩
      · rw [h] at HU
        have h9 := HU.out
        simp only [Prod.mk.injEq] at h9
        obtain ⟨rfl, rfl, rfl⟩ := h9
        go_wp2_with fail
        have hnew := rd_bad H12.out (Kd.R_below HRV.out HB2.out)
        refine ⟨⟨s', true, ⟨hnew⟩, ⟨Kp.set_ (S := (· = g)) HK2.out g 1 _ rfl⟩, ⟨HBW2.out.setCell (p := ⟨g, 1, none⟩) hg' _⟩, ⟨.inr ⟨rfl, ?_⟩⟩, hl'⟩, ?_⟩
        · have h8 := HRU.out
          unfold readU at h8
          rw [h] at h8
          simp at h8
          rw [h8.1, h8.2.1, h8.2.2.1, h8.2.2.2.1, h8.2.2.2.2]
        · rw [rd_mu_bad hnew, rd_mu HR'.out]
          omega
      · rw [h] at HU
        have h9 := HU.out
        simp only [Prod.mk.injEq] at h9
        obtain ⟨e1, rfl, rfl⟩ := h9
        rw [U_len] at hn2
        obtain ⟨A3, cut3, bc3, hc3⟩ := cut_drop A c s' (n : Int) (by omega) (by omega) hc
        simp only [Int.toNat_natCast] at cut3 bc3 hc3
        obtain ⟨t, ht⟩ : ∃ t, t = s'.drop n := ⟨_, rfl⟩
        rw [← ht] at cut3 bc3 hc3
        have htl : t.length = s'.length - n := by rw [ht, List.length_drop]
        have HTl := Aside0.mk htl
        have HTe := Aside0.mk ht
        have BC3 := Aside0.mk (bc3 _ HCC2.out)
        have hz : ((n : Int) == 0) = false := by rw [beq_eq_false_iff_ne]; omega
        clear htl ht bc3
        go_wp2_with fail
        refine (clone_any A3 t (c - n) w2 BC3.out (by have := HTl.out; omega)).mono ?_
        rintro e w3 ⟨v3, rfl, hR3, hB3⟩
        obtain ⟨A4, c4, e4⟩ := Kd.R_slice hR3
        obtain ⟨q4, hq4⟩ : ∃ q, t.length = q := ⟨_, rfl⟩
        rw [hq4] at e4
        subst e4
        clear hq4
        have HR3 := Aside0.mk (Kd.R_lower hR3 HBW2.out.size)
        have H13 := Aside0.mk ((hB3.block g (pw_lt H12.out)).trans H12.out)
        have HK3 := Aside0.mk (HK2.out.trans (Kp.of_below (S := (· = g)) hB3))
        have HBW3 := Aside0.mk (below_then HBW2.out HBW2.out.size hB3)
        have HL3 := Aside0.mk (Kd.R_below HR2.out hB3)
        have g03 : w3.cell? ⟨g, 0, none⟩ = some (.slice A s'.length c) := (pw_cells H13.out 0).1
        have f03 : w3.frozen? ⟨g, 0, none⟩ = false := (pw_cells H13.out 0).2
        have HN := Aside0.mk (rd_put H13.out HR3.out)
        clear hR3 hB3
        by_cases h0 : l' = []
        · subst h0
          go_wp2_with fail
          refine ⟨⟨t, false, HN, ⟨Kp.set_ (S := (· = g)) HK3.out g 0 _ rfl⟩, ⟨HBW3.out.setCell (p := ⟨g, 0, none⟩) hg' _⟩, ⟨.inl ⟨rfl, k, by have := HTl.out; omega, ?_⟩⟩, by have := HTl.out; omega⟩, ?_⟩
          · have h8 := HRU.out
            unfold readU at h8
            rw [h] at h8
            simp only [ne_eq, not_true_eq_false, if_false, Int.toNat_natCast] at h8
            rw [if_neg (show ¬ ((n : Int) = 0) by omega)] at h8
            rw [HTe.out, U_drop]
            exact h8
          · rw [rd_mu HN.out, rd_mu HR'.out]
            have := HTl.out
            omega
        · have h0l : (0 : Int) < l'.length := by
            have : l'.length ≠ 0 := fun h => h0 (List.eq_nil_of_length_eq_zero h)
            omega
          go_wp2_with fail
          go_ret3
          have h8 := HRU.out
          unfold readU at h8
          rw [h] at h8
          simp only [ne_eq, not_true_eq_false, if_false, Int.toNat_natCast] at h8
          rw [if_neg (show ¬ ((n : Int) = 0) by omega), if_pos h0] at h8
          simp only [Prod.mk.injEq] at h8
          obtain ⟨rfl, rfl, rfl, rfl, rfl⟩ := h8
          have hm := HM2.out
          rw [e1] at hm
          subst hm
          have hL := Kd.R_mono (ok' := fun _ => True) (Kd.R_step (Kd.R_types (e1 ▸ HL3.out) H13.out (by decide)) (fun i hi hlt => (Below.heap_setCell w3 ⟨g, 0, none⟩ (.slice A4 q4 c4) i hi.2))) (fun _ _ => trivial)
          exact ⟨_, rfl, Kd.R_lower hL HK.out.size, ⟨t, by rw [HTe.out, U_drop], by have := HTl.out; omega, HN.out⟩, Kp.set_ (S := (· = g)) HK3.out g 0 _ rfl, HBW3.out.setCell (p := ⟨g, 0, none⟩) hg' _⟩
end Go.Proofs.YtmbfapgamcbajaaDoor.X
namespace Go.Proofs.YtmbfapgamcbajaaDoor.X
open Go.RowKit Go.Proofs.YtmbfapgamcbajaaDoorW.PrintWords

abbrev kReq : Kd (List ByteArray) := Kd.slice 9 Kd.string
theorem infoQ : (Tryd.prog.info? 25).map (fun i => (i.zero, i.size, i.bytes)) = some (some (.slice none 0 0), 1, 24) := by kernel_rfl

theorem rd_grown {w w1 : World} {base g b : Nat} {s : List Int} {bad : Bool} {ok : Nat → Prop} {u : Value} {L : List (List ByteArray)} (h : RdAt w base g s bad) (ho : Kd.R kReq 25 w b ok u L) (hg : w.grownBy w1 u.ownBlock) : RdAt w1 base g s bad := by
  obtain ⟨v, h1, h2⟩ := h
  obtain ⟨_, inner, how, _⟩ := ho
  refine ⟨v, blk_grown h1 hg (own_ty how h1 (by decide)), ?_⟩
  rcases how.2 with ⟨rfl, _⟩ | ⟨b', cap, cur, rfl, _, hh, _⟩
  · exact Kd.R_step h2 (fun k _ hlt => hg.block k hlt (by simp [Value.ownBlock]))
  · refine Kd.R_mono (Kd.R_step (Kd.R_types h2 hh (by decide)) (fun k hk hlt => hg.block k hlt (by
      simp [Value.ownBlock]
      exact hk.2))) (fun _ _ => trivial)

abbrev Rs := List (List ByteArray) × List UInt8 × Int × Bool
def readsU : Nat → List UInt8 → Rs
  | 0, s => ([], s, 0, false)
  | k + 1, s =>
    if (readU (s.length + 1) s).2.2.1 = true then ((readU (s.length + 1) s).1 :: (readsU k (readU (s.length + 1) s).2.1).1, (readsU k (readU (s.length + 1) s).2.1).2)
    else ([], (readU (s.length + 1) s).2.1, (readU (s.length + 1) s).2.2.2)
theorem read_ok : ∀ (k : Nat) (s : List UInt8), (readU k s).2.2.1 = true → (readU k s).2.2.2 = (0, false)
  | 0, s, h => by simp [readU] at h
  | k + 1, s, h => by
    unfold readU at h ⊢
    split at h
    · simp at h
    · split at h
      · simp at h
      · split at h
        · simp_all
        · have := read_ok k _ h
          simp_all

set_option maxHeartbeats 4000000 in
set_option maxRecDepth 100000 in
theorem reads_any (w0 : World) (hLd : Ld w0) (g : Nat) (s : List Int) (most : Nat) (w : World) (hg : w0.heap.size ≤ g) (hB : Below w0.heap.size w0 w) (hR : RdAt w w0.heap.size g s false) (hl : s.length ≤ 1000000) (hm : most ≤ 1000000) (Lr : List (List ByteArray)) (rest : List UInt8) (ee : Int) (bad : Bool) (hres : readsU most (U s) = (Lr, rest, ee, bad)) :
    Calls Tryd.prog 19 #[.pointer (some ⟨g, 0, none⟩), .int .i64 most] w fun e w' => ∃ v : Value, e = .returned (.tuple #[v, .int .i64 ee]) ∧ Kd.R kReq 25 w' w0.heap.size (fun k => w.heap.size ≤ k) v Lr ∧ (∃ s' : List Int, U s' = rest ∧ s'.length ≤ 1000000 ∧ RdAt w' w0.heap.size g s' bad) ∧ Below w0.heap.size w0 w' ∧ Kp (· = g) w w' := by
  have HL := Aside0.mk hLd
  have HR := Aside0.mk hR
  have HRES := Aside0.mk hres
  have HB0 := Aside0.mk hB
  have hg' := hg
  clear hLd hR hres hB
  go_enter Tryd.func19, Tryd.ntmps19
  go_wp2
  have HR0 := Aside0.mk (HR.out.below (below_alloc (Below.refl w.heap.size w) (.cells #[] 25)))
  have HB1 := Aside0.mk (below_then HB0.out HB0.out.size (below_alloc (Below.refl w.heap.size w) (.cells #[] 25)))
  have HO0 := Aside0.mk (show Kd.R kReq 25 (w.alloc (.cells #[] 25)) w0.heap.size (fun k => w.heap.size ≤ k) (.slice (some ⟨w.heap.size, 0, none⟩) 0 0) [] from ⟨fun k hk => by simp [Value.ownBlock] at hk; omega, OwnRow.lit w w0.heap.size (ps := []) (inner := []) (Reps.none _ _) HB0.out.size (by simp)⟩)
  go_loopw [6] (fun v5 wr => ∃ (j : Nat) (L : List (List ByteArray)) (s' : List Int), L.length = j ∧ j ≤ most ∧ Aside0 (Kd.R kReq 25 wr w0.heap.size (fun k => w.heap.size ≤ k) v5 L) ∧ Aside0 (Kp (· = g) w wr) ∧ Aside0 (RdAt wr w0.heap.size g s' false) ∧ Aside0 (Below w0.heap.size w0 wr) ∧ Aside0 (s'.length ≤ 1000000) ∧ Aside0 ((L ++ (readsU (most - j) (U s')).1, (readsU (most - j) (U s')).2) = (Lr, rest, ee, bad))) (fun v5 wr => most - (match v5 with | .slice _ n _ => n | _ => 0))
  case atStart => exact ⟨0, [], s, rfl, Nat.zero_le _, HO0, ⟨(Kp.refl _ _).alloc _⟩, HR0, HB1, ⟨hl⟩, ⟨by rw [Nat.sub_zero, HRES.out]; rfl⟩⟩
  case round =>
    clear HR0 HB1 HO0
    obtain ⟨j, L, s', hj, hjm, HO, HK, HR', HB, HS, HE⟩ := hrel
    obtain ⟨A5, c5, e5⟩ := Kd.R_slice HO.out
    rw [hj] at e5
    subst e5
    have HJ := Aside0.mk hj
    clear hj
    by_cases hlt : j < most
    · have hI : (j : Int) < most := by omega
      obtain ⟨k, hk⟩ : ∃ k, most - j = k + 1 := ⟨most - j - 1, by omega⟩
      obtain ⟨l1, rs1, ok1, e1, b1, h1⟩ : ∃ l1 rs1 ok1 e1 b1, readU (s'.length + 1) (U s') = (l1, rs1, ok1, e1, b1) := ⟨_, _, _, _, _, rfl⟩
      have H1 := Aside0.mk h1
      have HKk := Aside0.mk hk
      have hE := HE.out
      rw [hk] at hE
      unfold readsU at hE
      rw [U_len, h1] at hE
      have HE1 := Aside0.mk hE
      clear h1 hk hE HE
      go_wp2_with fail
      refine (rd_next w0 HL.out g s' wr hg' HB.out HR'.out HS.out l1 rs1 ok1 e1 b1 H1.out).mono ?_
      rintro e w2 ⟨v2, rfl, hR2, ⟨s2, hs2, hl2, hR2'⟩, hK2, hB2⟩
      obtain ⟨A2, c2, e2⟩ := Kd.R_slice hR2
      obtain ⟨q2, hq2⟩ : ∃ q, l1.length = q := ⟨_, rfl⟩
      rw [hq2] at e2
      subst e2
      clear hq2
      have HLr := Aside0.mk hR2
      have HRd := Aside0.mk hR2'
      have HS2 := Aside0.mk (And.intro hs2 hl2)
      have HB2 := Aside0.mk hB2
      obtain ⟨vg, hvg, _⟩ := HR'.out
      have HO2 := Aside0.mk (Kd.R_mono (ok' := fun k => w.heap.size ≤ k) (Kd.R_step (Kd.R_types HO.out hvg (by decide)) (fun i hi hlt => hK2.block i hlt hi.2)) (fun _ h => h.1))
      have HK2 := Aside0.mk (HK.out.trans hK2)
      have HNb := Aside0.mk (Kd.R_newR (W := wr) (d' := kReq) (Kd.R_mono (ok' := fun k => wr.heap.size ≤ k) (Kd.R_bound HLr.out) (fun _ h => h.2.1)) HO.out)
      have HWR := Aside0.mk HK.out.size
      clear hR2 hR2' hs2 hl2 hK2 hB2 hvg
      cases ok1 with
      | false =>
        go_wp2_with fail
        go_ret2
        have h9 := HE1.out
        simp only [Bool.false_eq_true, if_false, List.append_nil, Prod.mk.injEq] at h9
        obtain ⟨rfl, rfl, rfl, rfl⟩ := h9
        exact ⟨_, rfl, HO2.out, ⟨s2, HS2.out.1, HS2.out.2, HRd.out⟩, HB2.out, HK2.out⟩
      | true =>
        have hb1 : (e1, b1) = (0, false) := by
          have := read_ok (s'.length + 1) (U s') (by rw [H1.out])
          rw [H1.out] at this
          exact this
        obtain ⟨rfl, rfl⟩ := Prod.mk.inj hb1
        go_wp2_with (at_builtin; go_loud (refine Kd.R_append kReq (w0 := w0) w0.heap.size rfl (.tmp 25) (.tmp 27) 40 25 (.slice none 0 0) 24 rfl Tryd.underlying40 infoQ rfl (by decide) (by decide) (.slice A5 j c5) L l1 [.slice A2 q2 c2] (fun k => w.heap.size ≤ k) _ rfl rfl (Kd.M_row (Kd.R_lower HNb.out HB.out.size)) (fun _ h => ⟨Nat.le_trans HWR.out h.1, h.2⟩) (fun _ h => Nat.le_trans HK2.out.size h) HO2.out HB2.out HB2.out.size (by have := HJ.out; omega) ?_; intro v4 w4 ho hb hg4 hat; have HO4 := Aside0.mk ho; have HB4 := Aside0.mk hb; have HG4 := Aside0.mk hg4; have HK4 := Aside0.mk (HK2.out.trans' (T := fun k => (Value.slice A5 j c5).ownBlock = some k) (Kp.of_grown hg4 (fun k e => .inl e)) (fun i e => .inr (HO2.out.1 i e))); clear ho hb hg4 hat))
        refine ⟨⟨j + 1, L ++ [l1], s2, by have := HJ.out; simp; omega, by omega, HO4, HK4, ⟨rd_grown HRd.out HO2.out HG4.out⟩, HB4, ⟨HS2.out.2⟩, ⟨?_⟩⟩, ?_⟩
        · have h9 := HE1.out
          have hk := HKk.out
          have ek : most - (j + 1) = k := by omega
          rw [ek, HS2.out.1, ← h9]
          simp
        · obtain ⟨A6, c6, rfl⟩ := Kd.R_slice HO4.out
          have := HJ.out
          simp
          omega
    · obtain rfl : j = most := by omega
      have hI : ¬ ((j : Int) < j) := by omega
      go_wp2
      go_ret2
      have h9 := HE.out
      rw [Nat.sub_self] at h9
      simp only [readsU, List.append_nil, Prod.mk.injEq] at h9
      obtain ⟨rfl, rfl, rfl, rfl⟩ := h9
      exact ⟨_, rfl, HO.out, ⟨s', rfl, HS.out, HR'.out⟩, HB.out, HK.out⟩
end Go.Proofs.YtmbfapgamcbajaaDoor.X
