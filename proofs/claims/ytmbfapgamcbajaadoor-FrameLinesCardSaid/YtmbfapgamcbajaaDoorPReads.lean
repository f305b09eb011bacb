/- Plain: a reader that is fed piece by piece gives what the document's All gives of the whole. -/
import Derived.Test.YtmbfapgamcbajaaDoorERRead
import Derived.Test.YtmbfapgamcbajaaDoorPRefK
import Derived.Test.YtmbfapgamcbajaaDoorXx8
set_option linter.unusedVariables false
set_option linter.unusedSimpArgs false
namespace Go.Proofs.YtmbfapgamcbajaaDoor.X
open Go.RowKit Go.Proofs.YtmbfapgamcbajaaDoorW.PrintWords

set_option maxHeartbeats 2000000 in
set_option maxRecDepth 100000 in
theorem rd_next_bad (base g : Nat) (s : List Int) (w : World) (hR : RdAt w base g s true) :
    Calls Tryd.prog 23 #[.pointer (some ⟨g, 0, none⟩)] w fun e w' => e = .returned (.tuple #[.slice none 0 0, .bool false, .int .i64 10]) ∧ w' = w := by
  obtain ⟨v, h1, h2⟩ := hR
  have g1 : w.cell? ⟨g, 1, none⟩ = some (.bool true) := (pw_cells h1 1).1
  clear h1 h2
  go_enter Tryd.func23, Tryd.ntmps23
  go_wp2
  go_loopw [] (fun wr => wr = w) (fun _ => 0)
  case atStart => rfl
  case round =>
    subst hrel
    go_wp2
    go_ret3
    exact ⟨rfl, rfl⟩

set_option maxHeartbeats 2000000 in
set_option maxRecDepth 100000 in
theorem reads_bad (base g : Nat) (s : List Int) (most : Nat) (hm : 0 < most) (w : World) (hR : RdAt w base g s true) :
    Calls Tryd.prog 19 #[.pointer (some ⟨g, 0, none⟩), .int .i64 most] w fun e w' => ∃ v : Value, e = .returned (.tuple #[v, .int .i64 10]) ∧ Kd.R kReq 25 w' w.heap.size (fun _ => True) v [] ∧ RdAt w' base g s true ∧ Below w.heap.size w w' := by
  have HR := Aside0.mk (hR.below (below_alloc (Below.refl w.heap.size w) (.cells #[] 25)))
  have HB := Aside0.mk (below_alloc (Below.refl w.heap.size w) (.cells #[] 25))
  have HO := Aside0.mk (show Kd.R kReq 25 (w.alloc (.cells #[] 25)) w.heap.size (fun _ => True) (.slice (some ⟨w.heap.size, 0, none⟩) 0 0) [] from ⟨fun _ _ => trivial, OwnRow.lit w w.heap.size (ps := []) (inner := []) (Reps.none _ _) (Nat.le_refl _) (by simp)⟩)
  have hI : (0 : Int) < most := by omega
  clear hR
  go_enter Tryd.func19, Tryd.ntmps19
  go_wp2
  go_loopw [6] (fun v6 wr => v6 = .slice (some ⟨w.heap.size, 0, none⟩) 0 0 ∧ wr = w.alloc (.cells #[] 25)) (fun _ _ => 0)
  case atStart => exact ⟨rfl, rfl⟩
  case round =>
    obtain ⟨rfl, rfl⟩ := hrel
    go_wp2_with fail
    refine (rd_next_bad base g s _ HR.out).mono ?_
    rintro e w2 ⟨rfl, rfl⟩
    go_wp2
    go_ret2
    exact ⟨_, rfl, HO.out, HR.out, HB.out⟩
end Go.Proofs.YtmbfapgamcbajaaDoor.X
namespace Go.Proofs.YtmbfapgamcbajaaDoor.X
open Go.RowKit Go.Proofs.YtmbfapgamcbajaaDoorW.PrintWords

abbrev Ra := List (List ByteArray) × Int × Bool
def allU : Nat → List UInt8 → Ra
  | 0, s => ([], s.length, false)
  | k + 1, s =>
    if (nextU s).2.2 ≠ 0 then ([], s.length, true)
    else if (nextU s).2.1 = 0 then ([], s.length, false)
    else ((if (nextU s).1 ≠ [] then [(nextU s).1] else []) ++ (allU k (s.drop (nextU s).2.1.toNat)).1, (allU k (s.drop (nextU s).2.1.toNat)).2)

theorem rnext_r (A : Option Addr) (b : List Int) (c : Nat) (w : World) (hb : BC w A b) (hc : b.length ≤ c) (hlen : b.length ≤ 2000) (hby : Byt b) (r1 : List ByteArray) (r2 r3 : Int) (hr : nextB b = (r1, r2, r3)) :
    Calls Tryd.prog 14 #[.slice A b.length c] w fun e w' => ∃ v0_ : Value, e = .returned (.tuple #[v0_, .int .i64 r2, .int .i64 r3]) ∧ Kd.R Kd.string 9 w' w.heap.size (fun _ => True) v0_ r1 ∧ Below w.heap.size w w' := by
  obtain ⟨K, hK⟩ := next_ev b hby hlen
  rw [← nextB_U, hr] at hK
  exact tipstaffref06_Next.calls K A c b r1 r2 r3 w hb hc (hK K (Nat.le_refl _))

set_option maxHeartbeats 4000000 in
set_option maxRecDepth 100000 in
theorem all_any (A : Option Addr) (s : List Int) (c : Nat) (w : World) (hb : BC w A s) (hc : s.length ≤ c) (hl : s.length ≤ 2000) (hby : Byt s) (Lr : List (List ByteArray)) (left : Int) (bad : Bool) (hres : allU (s.length + 1) (U s) = (Lr, left, bad)) :
    Calls Tryd.prog 20 #[.slice A s.length c] w fun e w' => ∃ v : Value, e = .returned (.tuple #[v, .int .i64 left, .bool bad]) ∧ Kd.R kReq 25 w' w.heap.size (fun _ => True) v Lr ∧ Below w.heap.size w w' := by
  have HBC := Aside0.mk hb
  have HB := Aside0.mk (below_alloc (Below.refl w.heap.size w) (.cells #[] 25))
  have HO := Aside0.mk (show Kd.R kReq 25 (w.alloc (.cells #[] 25)) w.heap.size (fun _ => True) (.slice (some ⟨w.heap.size, 0, none⟩) 0 0) [] from ⟨fun _ _ => trivial, OwnRow.lit w w.heap.size (ps := []) (inner := []) (Reps.none _ _) (Nat.le_refl _) (by simp)⟩)
  have HY := Aside0.mk hby
  have HRES := Aside0.mk hres
  clear hb hby hres
  go_enter Tryd.func20, Tryd.ntmps20
  go_wp2
  go_loopw [0, 5] (fun v0 v5 wr => ∃ (A' : Option Addr) (s' : List Int) (c' : Nat) (L : List (List ByteArray)) (fuel : Nat), v0 = .slice A' s'.length c' ∧ s'.length ≤ c' ∧ s'.length ≤ 2000 ∧ Aside0 (Byt s') ∧ Aside0 (L.length + s'.length ≤ 2000) ∧ Aside0 (BC w A' s') ∧ Aside0 (Kd.R kReq 25 wr w.heap.size (fun _ => True) v5 L) ∧ Aside0 (Below w.heap.size w wr) ∧ s'.length < fuel ∧ Aside0 ((L ++ (allU fuel (U s')).1, (allU fuel (U s')).2) = (Lr, left, bad))) (fun v0 _ _ => match v0 with | .slice _ n _ => n | _ => 0)
  case atStart => exact ⟨A, s, c, [], s.length + 1, rfl, hc, hl, HY, ⟨by simpa using hl⟩, HBC, HO, HB, Nat.lt_succ_self _, ⟨by rw [HRES.out]; rfl⟩⟩
  case round =>
    clear HBC HO HB HY HRES
    obtain ⟨A', s', c', L, fuel, rfl, hc', hl', HY, HLL, HBC, HO, HB, hf, HE⟩ := hrel
    obtain ⟨k, rfl⟩ : ∃ k, fuel = k + 1 := ⟨fuel - 1, by omega⟩
    obtain ⟨r1, r2, r3, hr⟩ : ∃ r1 r2 r3, nextB s' = (r1, r2, r3) := ⟨_, _, _, rfl⟩
    have hU := nextB_U s'
    rw [hr] at hU
    have HU := Aside0.mk hU
    have HRR := Aside0.mk hr
    clear hU hr
    go_wp2_with fail
    refine (rnext_r A' s' c' wr (Kd.C_below HBC.out HB.out) hc' hl' HY.out r1 r2 r3 HRR.out).mono ?_
    rintro e w2 ⟨v2, rfl, hR2, hB2⟩
    obtain ⟨A2, c2, e2⟩ := Kd.R_slice hR2
    obtain ⟨q2, hq2⟩ : ∃ q, r1.length = q := ⟨_, rfl⟩
    rw [hq2] at e2
    subst e2
    have HQ2 := Aside0.mk hq2
    have HNb := Aside0.mk (Kd.R_newR (W := wr) (d' := kReq) hR2 HO.out)
    have HO2 := Aside0.mk (Kd.R_below HO.out hB2)
    have HBW := Aside0.mk (below_then HB.out HB.out.size hB2)
    have HB2 := Aside0.mk hB2
    clear hq2 hR2 hB2
    rcases next_fits (U s') with h | h | ⟨l', n, h, hn1, hn2, hn3⟩
    · rw [h] at HU
      have h9 := HU.out
      simp only [Prod.mk.injEq] at h9
      obtain ⟨-, rfl, rfl⟩ := h9
      go_wp2_with fail
      have h8 := HE.out
      unfold allU at h8
      rw [h] at h8
      simp [U_len] at h8
      obtain ⟨rfl, rfl, rfl⟩ := h8
      go_ret3
      exact ⟨_, rfl, HO2.out, HBW.out⟩
    · rw [h] at HU
      have h9 := HU.out
      simp only [Prod.mk.injEq] at h9
      obtain ⟨-, rfl, rfl⟩ := h9
      go_wp2_with fail
      have h8 := HE.out
      unfold allU at h8
      rw [h] at h8
      simp [U_len] at h8
      obtain ⟨rfl, rfl, rfl⟩ := h8
      go_ret3
      exact ⟨_, rfl, HO2.out, HBW.out⟩
    · rw [h] at HU
      have h9 := HU.out
      simp only [Prod.mk.injEq] at h9
      obtain ⟨e1, rfl, rfl⟩ := h9
      have hql : q2 = l'.length := by rw [← e1, HQ2.out]
      have HE1 := Aside0.mk e1
      have HQl := Aside0.mk hql
      clear e1 hql
      rw [U_len] at hn2
      obtain ⟨A3, cut3, bc3, hc3⟩ := cut_drop A' c' s' (n : Int) (by omega) (by omega) hc'
      simp only [Int.toNat_natCast] at cut3 bc3 hc3
      obtain ⟨t, ht⟩ : ∃ t, t = s'.drop n := ⟨_, rfl⟩
      rw [← ht] at cut3 bc3 hc3
      have htl : t.length = s'.length - n := by rw [ht, List.length_drop]
      have HTl := Aside0.mk htl
      have HTe := Aside0.mk ht
      have HTy := Aside0.mk (show Byt t by rw [ht]; exact fun z hz => HY.out z (List.mem_of_mem_drop hz))
      have hz : ((n : Int) == 0) = false := by rw [beq_eq_false_iff_ne]; omega
      have h8 := HE.out
      unfold allU at h8
      rw [h] at h8
      simp only [ne_eq, not_true_eq_false, if_false, Int.toNat_natCast] at h8
      rw [if_neg (show ¬ ((n : Int) = 0) by omega)] at h8
      have HE8 := Aside0.mk h8
      clear htl ht h8 HE
      by_cases h0 : l' = []
      · subst h0
        have hq0 : q2 = 0 := by rw [HQl.out]; rfl
        subst hq0
        go_wp2_with fail
        go_roundw
        case rel =>
          refine ⟨A3, t, _, L, k, rfl, hc3, by have := HTl.out; omega, HTy, ⟨by have h1 := HTl.out; have h2 := HLL.out; omega⟩, ⟨bc3 _ HBC.out⟩, HO2, HBW, by have := HTl.out; omega, ⟨?_⟩⟩
          have h8 := HE8.out
          rw [HTe.out, U_drop]
          simpa using h8
        case measure => have := HTl.out; simp; omega
      · have hq0 : (0 : Int) < q2 := by
          have : q2 ≠ 0 := fun h1 => h0 (List.eq_nil_of_length_eq_zero (by rw [← HQl.out, h1]))
          omega
        obtain ⟨A5, c5, e5⟩ := Kd.R_slice HO.out
        obtain ⟨q5, hq5⟩ : ∃ q, L.length = q := ⟨_, rfl⟩
        rw [hq5] at e5
        subst e5
        have HQ5 := Aside0.mk hq5
        clear hq5
        go_wp2_with (at_builtin; go_loud (refine Kd.R_append kReq (w0 := w) w.heap.size rfl (.tmp 29) (.tmp 31) 40 25 (.slice none 0 0) 24 rfl Tryd.underlying40 infoQ rfl (by decide) (by decide) (.slice A5 q5 c5) L r1 [.slice A2 q2 c2] (fun _ => True) _ rfl rfl (Kd.M_row (Kd.R_lower HNb.out HB.out.size)) (fun _ h => h) (fun _ _ => trivial) HO2.out HBW.out HBW.out.size (by have := HLL.out; omega) ?_; intro v4 w4 ho hb hg4 hat; have HO4 := Aside0.mk ho; have HB4 := Aside0.mk hb; have HG4 := Aside0.mk hg4; clear ho hb hg4 hat))
        go_roundw
        case rel =>
          refine ⟨A3, t, _, L ++ [r1], k, rfl, hc3, by have := HTl.out; omega, HTy, ⟨by have h1 := HTl.out; have h2 := HLL.out; simp; omega⟩, ⟨bc3 _ HBC.out⟩, HO4, HB4, by have := HTl.out; omega, ⟨?_⟩⟩
          have h8 := HE8.out
          rw [if_pos h0] at h8
          rw [HTe.out, U_drop, HE1.out]
          simpa using h8
        case measure => have := HTl.out; simp; omega
end Go.Proofs.YtmbfapgamcbajaaDoor.X
namespace Go.Proofs.YtmbfapgamcbajaaDoor.X
open Go.RowKit Go.Proofs.YtmbfapgamcbajaaDoorW.PrintWords

/-- The three ways of Next. -/
theorem next_ways (s : List UInt8) : nextU s = ([], 0, 0) ∨ nextU s = ([], 0, 10) ∨ ∃ l n, nextU s = (l, ((n : Nat) : Int), 0) ∧ 0 < n ∧ n ≤ s.length := by
  rcases next_fits s with h | h | ⟨l, n, h, h1, h2, _⟩
  · exact .inl h
  · exact .inr (.inl h)
  · exact .inr (.inr ⟨l, n, h, h1, h2⟩)
theorem all_none {k : Nat} {s : List UInt8} (h : nextU s = ([], 0, 0)) : allU (k + 1) s = ([], (s.length : Int), false) := by
  unfold allU; rw [h]; simp
theorem all_bad {k : Nat} {s : List UInt8} (h : nextU s = ([], 0, 10)) : allU (k + 1) s = ([], (s.length : Int), true) := by
  unfold allU; rw [h]; simp
theorem all_some {k : Nat} {s : List UInt8} {l : List ByteArray} {n : Nat} (h : nextU s = (l, (n : Int), 0)) (h0 : 0 < n) : allU (k + 1) s = ((if l ≠ [] then [l] else []) ++ (allU k (s.drop n)).1, (allU k (s.drop n)).2) := by
  rw [allU, h]
  simp only [ne_eq, not_true_eq_false, if_false, Int.toNat_natCast]
  rw [if_neg (show ¬ ((n : Int) = 0) by omega)]
theorem all_fuel : ∀ (k k' : Nat) (s : List UInt8), s.length < k → s.length < k' → allU k s = allU k' s
  | 0, _, _, h, _ => by omega
  | k + 1, 0, _, _, h => by omega
  | k + 1, k' + 1, s, h, h' => by
    rcases next_ways s with h1 | h1 | ⟨l, n, h1, h2, h3⟩
    · rw [all_none h1, all_none h1]
    · rw [all_bad h1, all_bad h1]
    · have hd : (s.drop n).length = s.length - n := List.length_drop
      rw [all_some h1 h2, all_some h1 h2, all_fuel k k' (s.drop n) (by omega) (by omega)]
theorem read_no {k : Nat} {s : List UInt8} (h : nextU s = ([], 0, 0)) : readU (k + 1) s = ([], s, false, 0, false) := by
  unfold readU; rw [h]; simp
theorem read_bd {k : Nat} {s : List UInt8} (h : nextU s = ([], 0, 10)) : readU (k + 1) s = ([], s, false, 10, true) := by
  unfold readU; rw [h]; simp
theorem read_some {k : Nat} {s : List UInt8} {l : List ByteArray} {n : Nat} (h : nextU s = (l, (n : Int), 0)) (h0 : 0 < n) : readU (k + 1) s = if l ≠ [] then (l, s.drop n, true, 0, false) else readU k (s.drop n) := by
  rw [readU, h]
  simp only [ne_eq, not_true_eq_false, if_false, Int.toNat_natCast]
  rw [if_neg (show ¬ ((n : Int) = 0) by omega)]

/-- One Next of a reader, seen by All of all that comes. -/
theorem read_all (t : List UInt8) : ∀ (k : Nat) (s : List UInt8), s.length < k → ∀ K, (s ++ t).length < K →
    (∃ l rest, readU k s = (l, rest, true, 0, false) ∧ rest.length < s.length ∧ allU K (s ++ t) = (l :: (allU K (rest ++ t)).1, (allU K (rest ++ t)).2)) ∨
    (∃ rest, readU k s = ([], rest, false, 0, false) ∧ rest.length ≤ s.length ∧ nextU rest = ([], 0, 0) ∧ allU K (s ++ t) = allU K (rest ++ t)) ∨
    (∃ rest, readU k s = ([], rest, false, 10, true) ∧ rest.length ≤ s.length ∧ nextU rest = ([], 0, 10) ∧ allU K (s ++ t) = allU K (rest ++ t))
  | 0, s, h => by omega
  | k + 1, s, h => by
    intro K hK
    obtain ⟨K', rfl⟩ : ∃ K', K = K' + 1 := ⟨K - 1, by omega⟩
    rcases next_ways s with h1 | h1 | ⟨l, n, h1, h2, h3⟩
    · exact .inr (.inl ⟨s, read_no h1, Nat.le_refl _, h1, rfl⟩)
    · exact .inr (.inr ⟨s, read_bd h1, Nat.le_refl _, h1, rfl⟩)
    · have hg : nextU (s ++ t) = (l, (n : Int), 0) := by
        rcases next_grows s t with h4 | h4
        · rw [h1] at h4
          simp only [Prod.mk.injEq] at h4
          omega
        · rw [h4, h1]
      have hd : (s ++ t).drop n = s.drop n ++ t := List.drop_append_of_le_length h3
      have hl : (s.drop n).length = s.length - n := List.length_drop
      have ha := all_some (k := K') hg h2
      rw [hd, all_fuel K' (K' + 1) (s.drop n ++ t) (by simp at hK ⊢; omega) (by simp at hK ⊢; omega)] at ha
      by_cases h0 : l = []
      · subst h0
        rw [read_some h1 h2, if_neg (by simp)]
        simp only [ne_eq, not_true_eq_false, if_false, List.nil_append] at ha
        rcases read_all t k (s.drop n) (by omega) (K' + 1) (by simp at hK ⊢; omega) with ⟨l', rest, e1, e2, e3⟩ | ⟨rest, e1, e2, e3, e4⟩ | ⟨rest, e1, e2, e3, e4⟩
        · exact .inl ⟨l', rest, e1, by omega, by rw [ha]; exact e3⟩
        · exact .inr (.inl ⟨rest, e1, by omega, e3, by rw [ha]; exact e4⟩)
        · exact .inr (.inr ⟨rest, e1, by omega, e3, by rw [ha]; exact e4⟩)
      · rw [read_some h1 h2, if_pos h0]
        rw [if_pos h0] at ha
        exact .inl ⟨l, s.drop n, rfl, by omega, ha⟩

/-- All Nexts of a reader, up to the first that gives none. -/
theorem reads_all (t : List UInt8) : ∀ (m : Nat) (s : List UInt8), s.length < m → ∀ K, (s ++ t).length < K →
    ∃ L rest, rest.length ≤ s.length ∧ allU K (s ++ t) = (L ++ (allU K (rest ++ t)).1, (allU K (rest ++ t)).2) ∧
      ((readsU m s = (L, rest, 0, false) ∧ nextU rest = ([], 0, 0)) ∨ (readsU m s = (L, rest, 10, true) ∧ nextU rest = ([], 0, 10)))
  | 0, s, h => by omega
  | m + 1, s, h => by
    intro K hK
    rcases read_all t (s.length + 1) s (Nat.lt_succ_self _) K hK with ⟨l, rest, e1, e2, e3⟩ | ⟨rest, e1, e2, e3, e4⟩ | ⟨rest, e1, e2, e3, e4⟩
    · obtain ⟨L, r2, f1, f2, f3⟩ := reads_all t m rest (by omega) K (by simp at hK ⊢; omega)
      refine ⟨l :: L, r2, by omega, by rw [e3, f2]; rfl, ?_⟩
      unfold readsU
      rw [e1]
      simp only [if_true]
      rcases f3 with ⟨g1, g2⟩ | ⟨g1, g2⟩
      · exact .inl ⟨by rw [g1], g2⟩
      · exact .inr ⟨by rw [g1], g2⟩
    · refine ⟨[], rest, e2, by rw [e4]; rfl, .inl ⟨?_, e3⟩⟩
      unfold readsU
      rw [e1]
      simp
    · refine ⟨[], rest, e2, by rw [e4]; rfl, .inr ⟨?_, e3⟩⟩
      unfold readsU
      rw [e1]
      simp

/-- Where a reader stands that has been fed the bytes of b up to a place, and has given the requests G. -/
structure RdInv (K : Nat) (b : List UInt8) (at_ : Nat) (G : List (List ByteArray)) (rest : List UInt8) (bad : Bool) : Prop where
  all : allU K b = (G ++ (allU K (rest ++ b.drop at_)).1, (allU K (rest ++ b.drop at_)).2)
  len : rest.length ≤ at_
  way : (bad = false ∧ nextU rest = ([], 0, 0)) ∨ (bad = true ∧ nextU rest = ([], 0, 10))

theorem inv_start (K : Nat) (b : List UInt8) : RdInv K b 0 [] [] false :=
  ⟨by simp, Nat.le_refl _, .inl ⟨rfl, rfl⟩⟩
theorem piece_drop (b : List UInt8) (i j : Nat) (h : i ≤ j) (hj : j ≤ b.length) : (b.take j).drop i ++ b.drop j = b.drop i := by
  have h1 : b.drop i = (b.take j ++ b.drop j).drop i := by rw [List.take_append_drop]
  rw [h1, List.drop_append_of_le_length (by rw [List.length_take]; omega)]
theorem inv_good {K : Nat} {b : List UInt8} {i j m : Nat} {G : List (List ByteArray)} {rest : List UInt8} (h : RdInv K b i G rest false) (hij : i ≤ j) (hj : j ≤ b.length) (hK : b.length < K) (hm : b.length < m) :
    ∃ L rest' e bad, readsU m (rest ++ (b.take j).drop i) = (L, rest', e, bad) ∧ e = (if bad = true then 10 else 0) ∧ RdInv K b j (G ++ L) rest' bad := by
  have hl : (rest ++ (b.take j).drop i).length ≤ j := by
    have := h.len
    rw [List.length_append, List.length_drop, List.length_take]
    omega
  obtain ⟨L, r2, f1, f2, f3⟩ := reads_all (b.drop j) m (rest ++ (b.take j).drop i) (by omega) K (by rw [List.length_append, List.length_drop]; omega)
  rw [List.append_assoc, piece_drop b i j hij hj] at f2
  have hall : allU K b = ((G ++ L) ++ (allU K (r2 ++ b.drop j)).1, (allU K (r2 ++ b.drop j)).2) := by
    rw [h.all, f2, List.append_assoc]
  rcases f3 with ⟨g1, g2⟩ | ⟨g1, g2⟩
  · exact ⟨L, r2, 0, false, g1, rfl, hall, by omega, .inl ⟨rfl, g2⟩⟩
  · exact ⟨L, r2, 10, true, g1, rfl, hall, by omega, .inr ⟨rfl, g2⟩⟩
theorem inv_bad {K : Nat} {b : List UInt8} {i j : Nat} {G : List (List ByteArray)} {rest : List UInt8} (h : RdInv K b i G rest true) (hij : i ≤ j) (hj : j ≤ b.length) : RdInv K b j G (rest ++ (b.take j).drop i) true := by
  rcases h.way with ⟨h1, _⟩ | ⟨_, h1⟩
  · cases h1
  refine ⟨?_, ?_, .inr ⟨rfl, ?_⟩⟩
  · rw [List.append_assoc, piece_drop b i j hij hj]
    exact h.all
  · have := h.len
    rw [List.length_append, List.length_drop, List.length_take]
    omega
  · rcases next_grows rest ((b.take j).drop i) with h2 | h2
    · rw [h1] at h2
      simp at h2
    · rw [h2, h1]
theorem inv_end {K : Nat} {b : List UInt8} {G : List (List ByteArray)} {rest : List UInt8} {bad : Bool} (h : RdInv K b b.length G rest bad) (hK : 0 < K) : allU K b = (G, (rest.length : Int), bad) := by
  obtain ⟨k, rfl⟩ : ∃ k, K = k + 1 := ⟨K - 1, by omega⟩
  rw [h.all, List.drop_length, List.append_nil]
  rcases h.way with ⟨rfl, h1⟩ | ⟨rfl, h1⟩
  · rw [all_none h1]; simp
  · rw [all_bad h1]; simp

theorem all_len : ∀ (k : Nat) (s : List UInt8), (allU k s).1.length ≤ s.length
  | 0, s => by simp [allU]
  | k + 1, s => by
    rcases next_ways s with h1 | h1 | ⟨l, n, h1, h2, h3⟩
    · rw [all_none h1]; simp
    · rw [all_bad h1]; simp
    · rw [all_some h1 h2]
      have h4 := all_len k (s.drop n)
      rw [List.length_drop] at h4
      simp only [List.length_append]
      split
      · simp; omega
      · simp; omega
theorem all_words : ∀ (k : Nat) (s : List UInt8), ∀ x ∈ (allU k s).1, x.length ≤ 32
  | 0, s, x, hx => by simp [allU] at hx
  | k + 1, s, x, hx => by
    rcases next_fits s with h1 | h1 | ⟨l, n, h1, h2, h3, h4⟩
    · rw [all_none h1] at hx; simp at hx
    · rw [all_bad h1] at hx; simp at hx
    · rw [all_some h1 h2] at hx
      simp only [List.mem_append] at hx
      rcases hx with hx | hx
      · split at hx
        · rw [List.mem_singleton.1 hx]; exact h4
        · simp at hx
      · exact all_words k (s.drop n) x hx
theorem inv_len {K : Nat} {b : List UInt8} {i : Nat} {G : List (List ByteArray)} {rest : List UInt8} {bad : Bool} (h : RdInv K b i G rest bad) : G.length ≤ b.length ∧ ∀ x ∈ G, x.length ≤ 32 := by
  have h1 := all_len K b
  have h2 := all_words K b
  rw [h.all] at h1 h2
  simp only [List.length_append] at h1
  exact ⟨by omega, fun x hx => h2 x (List.mem_append.2 (.inl hx))⟩
end Go.Proofs.YtmbfapgamcbajaaDoor.X
