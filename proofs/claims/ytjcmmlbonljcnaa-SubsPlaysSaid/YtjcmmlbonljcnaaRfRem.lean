/- The document's Remove, Drop, Add. -/
import Derived.Test.YtjcmmlbonljcnaaRfOf
import Derived.Laws.Tables
set_option linter.unusedVariables false
set_option linter.unusedSimpArgs false
namespace Go.Proofs.Ytjcmmlbonljcnaa.X
open Go.RowKit Go.Maps Go.ChangeMaps Go.MapKept Go.Proofs.Ytjcmmlbonljcnaa.Mv Go.Proofs.YtjcmmlbonljcnaaW.PrintWords

theorem infoP : (Try.prog.info? 56).map (fun i => (i.zero, i.size, i.bytes)) = some (some (.agg #[.int .i64 0, .string ⟨#[]⟩]), 2, 24) := by kernel_rfl
theorem rf_put {w : World} {b r : Nat} {v : Value} {cs : Array Value} {L : List Pr} (h1 : w.heap[r]? = some (.cells cs 38 (0, 0))) (h0 : cs.size = 1) (h2 : Kd.R kPr 56 w b (fun _ => True) v L) : RfAt (w.setCell ⟨r, 0, none⟩ v) b r L := by
  refine ⟨v, ?_, Kd.R_mono (Kd.R_step (Kd.R_types h2 h1 (by decide)) (fun k hk hlt => Below.heap_setCell _ _ _ _ hk.2)) (fun _ _ => trivial)⟩
  rw [setCell_eq_setRow w r 0 cs _ (0, 0) v h1]
  have := setRow_heap w r cs (cs.setIfInBounds 0 v) _ _ h1
  rw [this]
  congr 2
  match cs, h0 with
  | ⟨[a]⟩, _ => rfl
theorem filter_take {α : Type} (F : α → Bool) {L : List α} {i : Nat} (hi : i < L.length) : (L.take (i + 1)).filter F = (L.take i).filter F ++ (if F L[i] = true then [L[i]] else []) := by
  rw [List.take_succ_eq_append_getElem hi, List.filter_append]
  congr 1
  by_cases h : F L[i] = true <;> simp [h]

set_option maxHeartbeats 1000000 in
theorem rcount_any (b r : Nat) (L : List Pr) (c : Int) (w : World) (H : RfAt w b r L) (hn : L.length ≤ 100000) (q : Nat) (hq : (ofP c L).length = q) :
    Calls Try.prog 25 #[.pointer (some ⟨r, 0, none⟩), .int .i64 c] w fun e w' => e = .returned (.int .i64 q) ∧ Aside0 (Below w.heap.size w w') := by
  have HH := Aside0.mk H
  obtain ⟨l, hl⟩ : ∃ l, ofP c L = l := ⟨_, rfl⟩
  have HL := Aside0.mk hl
  have HQ := Aside0.mk (show l.length = q by rw [← hl, hq])
  clear H hl hq
  go_enter Try.func25, Try.ntmps25
  go_wp2_with fail
  refine (rof_any b r L c w HH.out hn l HL.out q HQ.out).mono ?_
  rintro e w' ⟨A, k, rfl, hk, _, HB⟩
  go_wp2
  go_ret
  exact ⟨rfl, HB⟩

set_option maxHeartbeats 1000000 in
set_option maxRecDepth 100000 in
theorem rdrop_any (b r : Nat) (L : List Pr) (c : Int) (w : World) (H : RfAt w b r L) (hn : L.length ≤ 100000) (hb : b ≤ w.heap.size) :
    Calls Try.prog 18 #[.pointer (some ⟨r, 0, none⟩), .int .i64 c] w fun e w' => e = .returned (.tuple #[]) ∧ Aside0 (RfAt w' b r (dropP c L)) ∧ Aside0 (Kp (· = r) w w') := by
  obtain ⟨v, h1, h2⟩ := H.row
  obtain ⟨A1, c1, rfl, hc1, hC⟩ := Kd.R_reads h2
  obtain ⟨n, hn1⟩ : ∃ n, L.length = n := ⟨_, rfl⟩
  have HN := Aside0.mk hn1
  rw [hn1] at hn hc1 h1
  have H1 := Aside0.mk h1
  have HC := Aside0.mk hC
  have c0 : w.cell? ⟨r, 0, none⟩ = some (.slice A1 n c1) := by simp [World.cell?, h1]
  clear h1 h2 hC hn1 H
  go_enter Try.func18, Try.ntmps18
  go_wp2
  have HB0 := Aside0.mk (below_alloc (Below.refl w.heap.size w) (.cells #[] 56))
  have HO0 := Aside0.mk (show Kd.R kPr 56 (w.alloc (.cells #[] 56)) w.heap.size (fun _ => True) (.slice (some ⟨w.heap.size, 0, none⟩) 0 0) [] from ⟨fun _ _ => trivial, OwnRow.lit w w.heap.size (ps := []) (inner := []) (Reps.none _ _) (Nat.le_refl _) (by simp)⟩)
  go_loopw [4, 5] (fun v4 v5 wr => ∃ i : Nat, v5 = .int .i64 i ∧ i ≤ n ∧ Aside0 (Kd.R kPr 56 wr w.heap.size (fun _ => True) v4 (dropP c (L.take i))) ∧ Aside0 (Below w.heap.size w wr)) (fun _ v5 _ => n - (match v5 with | .int _ i => i.toNat | _ => 0))
  case atStart => exact ⟨0, rfl, Nat.zero_le _, HO0, HB0⟩
  case round =>
    clear HO0 HB0 c0
    obtain ⟨i, rfl, hi, HO, HB⟩ := hrel
    have HR0 := Aside0.mk ((HB.out.block r (pwlt H1.out)).trans H1.out)
    have c0 : wr.cell? ⟨r, 0, none⟩ = some (.slice A1 n c1) := by simp [World.cell?, HR0.out]
    have f0 : wr.frozen? ⟨r, 0, none⟩ = false := by simp [World.frozen?, HR0.out]
    obtain ⟨A6, c6, e6⟩ := Kd.R_slice HO.out
    obtain ⟨xs, hxs⟩ : ∃ xs, dropP c (L.take i) = xs := ⟨_, rfl⟩
    obtain ⟨q6, hq6⟩ : ∃ q, xs.length = q := ⟨_, rfl⟩
    have hq6l : q6 ≤ 100000 := by rw [← hq6, ← hxs]; exact Nat.le_trans (List.length_filter_le _ _) (by rw [List.length_take, HN.out]; omega)
    rw [hxs, hq6] at e6
    subst e6
    have HXS := Aside0.mk hxs
    have HQ6 := Aside0.mk hq6
    rw [hxs] at HO
    clear hxs hq6
    by_cases hlt : i < n
    · have hI : (i : Int) < n := by omega
      obtain ⟨ad, e0, _⟩ := (HC.out).2.2 (by rw [HN.out]; omega)
      subst e0
      have hiL : i < L.length := by rw [HN.out]; exact hlt
      have HT := Aside0.mk (show dropP c (L.take (i + 1)) = dropP c (L.take i) ++ _ from filter_take (fun q : Pr => decide (q.1 ≠ c)) hiL)
      obtain ⟨d0, d1⟩ := pr_cells HC.out hiL
      obtain ⟨x, hx⟩ : ∃ x, L[i] = x := ⟨_, rfl⟩
      obtain ⟨p, hp⟩ : ∃ p, ad.add (i * 2) = p := ⟨_, rfl⟩
      rw [hx, hp] at d0 d1
      rw [hx, HXS.out] at HT
      obtain ⟨xa, xt⟩ := x
      simp only at d0 d1 HT
      have d0 := (HB.out.cell (World.block_lt_of_cell? _ _ d0)).trans d0
      have d1 := (HB.out.cell (World.block_lt_of_cell? _ _ d1)).trans d1
      clear hx
      by_cases hac : xa = c
      · have HAC := Aside0.mk hac
        subst hac
        go_wp2
        exact ⟨⟨i + 1, by simp, by omega, ⟨by rw [HT.out]; simpa using HO.out⟩, HB⟩, by simp; omega⟩
      · have HAC := Aside0.mk hac
        go_wp2_with (at_builtin; go_loud (refine Kd.R_append kPr (w0 := w) w.heap.size rfl (.tmp 26) (.tmp 34) 36 56 (.agg #[.int .i64 0, .string ⟨#[]⟩]) 24 rfl Try.underlying36 infoP rfl (by decide) (by decide) (.slice A6 q6 c6) xs (xa, xt) [.int .i64 xa, .string xt] (fun _ => True) (fun _ => False) rfl rfl ⟨[.int .i64 xa], [.string xt], rfl, rfl, rfl⟩ (fun _ h => h.elim) (fun _ _ => trivial) HO.out HB.out HB.out.size (by rw [HQ6.out]; omega) ?_; intro v4 w4 ho hb4 hg4 hat; have HO4 := Aside0.mk ho; have HB4 := Aside0.mk hb4; clear ho hb4 hg4 hat))
        exact ⟨⟨i + 1, by simp, by omega, ⟨by rw [HT.out, if_pos (by simpa using HAC.out)]; exact HO4.out⟩, HB4⟩, by simp; omega⟩
    · obtain rfl : n = i := by omega
      have hI : ¬ ((n : Int) < n) := by omega
      go_wp2
      go_end0
      have hl : xs = dropP c L := by rw [← HXS.out, List.take_of_length_le (by rw [HN.out]; exact Nat.le_refl _)]
      subst hl
      exact ⟨rfl, ⟨rf_put HR0.out rfl (Kd.R_lower HO.out hb)⟩, ⟨(Kp.of_below (S := (· = r)) HB.out).setCell (a := ⟨r, 0, none⟩) (.inl rfl) _⟩⟩

set_option maxHeartbeats 1000000 in
set_option maxRecDepth 100000 in
theorem rremove_any (b r : Nat) (L : List Pr) (c : Int) (t : ByteArray) (w : World) (H : RfAt w b r L) (hn : L.length ≤ 100000) (hb : b ≤ w.heap.size) (q : Nat) (hq : (ofP c (remP (c, t) L)).length = q) :
    Calls Try.prog 16 #[.pointer (some ⟨r, 0, none⟩), .int .i64 c, .string t] w fun e w' => e = .returned (.int .i64 q) ∧ Aside0 (RfAt w' b r (remP (c, t) L)) ∧ Aside0 (Kp (· = r) w w') := by
  obtain ⟨v, h1, h2⟩ := H.row
  obtain ⟨A1, c1, rfl, hc1, hC⟩ := Kd.R_reads h2
  obtain ⟨n, hn1⟩ : ∃ n, L.length = n := ⟨_, rfl⟩
  have HN := Aside0.mk hn1
  rw [hn1] at hn hc1 h1
  have H1 := Aside0.mk h1
  have HC := Aside0.mk hC
  have c0 : w.cell? ⟨r, 0, none⟩ = some (.slice A1 n c1) := by simp [World.cell?, h1]
  have HQC := Aside0.mk hq
  clear h1 h2 hC hn1 H hq
  go_enter Try.func16, Try.ntmps16
  go_wp2
  have HB0 := Aside0.mk (below_alloc (Below.refl w.heap.size w) (.cells #[] 56))
  have HO0 := Aside0.mk (show Kd.R kPr 56 (w.alloc (.cells #[] 56)) w.heap.size (fun _ => True) (.slice (some ⟨w.heap.size, 0, none⟩) 0 0) [] from ⟨fun _ _ => trivial, OwnRow.lit w w.heap.size (ps := []) (inner := []) (Reps.none _ _) (Nat.le_refl _) (by simp)⟩)
  go_loopw [7, 8] (fun v6 v7 wr => ∃ i : Nat, v7 = .int .i64 i ∧ i ≤ n ∧ Aside0 (Kd.R kPr 56 wr w.heap.size (fun _ => True) v6 (remP (c, t) (L.take i))) ∧ Aside0 (Below w.heap.size w wr)) (fun _ v7 _ => n - (match v7 with | .int _ i => i.toNat | _ => 0))
  case atStart => exact ⟨0, rfl, Nat.zero_le _, HO0, HB0⟩
  case round =>
    clear HO0 HB0 c0
    obtain ⟨i, rfl, hi, HO, HB⟩ := hrel
    have HR0 := Aside0.mk ((HB.out.block r (pwlt H1.out)).trans H1.out)
    have c0 : wr.cell? ⟨r, 0, none⟩ = some (.slice A1 n c1) := by simp [World.cell?, HR0.out]
    have f0 : wr.frozen? ⟨r, 0, none⟩ = false := by simp [World.frozen?, HR0.out]
    obtain ⟨A6, c6, e6⟩ := Kd.R_slice HO.out
    obtain ⟨xs, hxs⟩ : ∃ xs, remP (c, t) (L.take i) = xs := ⟨_, rfl⟩
    obtain ⟨q6, hq6⟩ : ∃ q, xs.length = q := ⟨_, rfl⟩
    have hq6l : q6 ≤ 100000 := by rw [← hq6, ← hxs]; exact Nat.le_trans (List.length_filter_le _ _) (by rw [List.length_take, HN.out]; omega)
    rw [hxs, hq6] at e6
    subst e6
    have HXS := Aside0.mk hxs
    have HQ6 := Aside0.mk hq6
    rw [hxs] at HO
    clear hxs hq6
    by_cases hlt : i < n
    · have hI : (i : Int) < n := by omega
      obtain ⟨ad, e0, _⟩ := (HC.out).2.2 (by rw [HN.out]; omega)
      subst e0
      have hiL : i < L.length := by rw [HN.out]; exact hlt
      have HT := Aside0.mk (show remP (c, t) (L.take (i + 1)) = remP (c, t) (L.take i) ++ _ from filter_take (fun q : Pr => decide (q ≠ (c, t))) hiL)
      obtain ⟨d0, d1⟩ := pr_cells HC.out hiL
      obtain ⟨x, hx⟩ : ∃ x, L[i] = x := ⟨_, rfl⟩
      obtain ⟨p, hp⟩ : ∃ p, ad.add (i * 2) = p := ⟨_, rfl⟩
      rw [hx, hp] at d0 d1
      rw [hx, HXS.out] at HT
      obtain ⟨xa, xt⟩ := x
      simp only at d0 d1 HT
      have d0 := (HB.out.cell (World.block_lt_of_cell? _ _ d0)).trans d0
      have d1 := (HB.out.cell (World.block_lt_of_cell? _ _ d1)).trans d1
      clear hx
      by_cases hac : xa = c
      · by_cases htc : xt = t
        · subst hac htc
          go_wp2
          exact ⟨⟨i + 1, by simp, by omega, ⟨by rw [HT.out]; simpa using HO.out⟩, HB⟩, by simp; omega⟩
        · have HAC := Aside0.mk (show xa = c → ¬ xt = t from fun _ => htc)
          have hbe : (xt.toList == t.toList) = false := by rw [beq_eq_false_iff_ne]; intro e; exact htc (toList_iff.1 e)
          subst hac
          go_wp2_with (at_builtin; go_loud (refine Kd.R_append kPr (w0 := w) w.heap.size rfl (.tmp 30) (.tmp 38) 36 56 (.agg #[.int .i64 0, .string ⟨#[]⟩]) 24 rfl Try.underlying36 infoP rfl (by decide) (by decide) (.slice A6 q6 c6) xs (xa, xt) [.int .i64 xa, .string xt] (fun _ => True) (fun _ => False) rfl rfl ⟨[.int .i64 xa], [.string xt], rfl, rfl, rfl⟩ (fun _ h => h.elim) (fun _ _ => trivial) HO.out HB.out HB.out.size (by rw [HQ6.out]; omega) ?_; intro v4 w4 ho hb4 hg4 hat; have HO4 := Aside0.mk ho; have HB4 := Aside0.mk hb4; clear ho hb4 hg4 hat))
          exact ⟨⟨i + 1, by simp, by omega, ⟨by rw [HT.out, if_pos (show decide (((_, _) : Pr) ≠ (_, _)) = true from decide_eq_true (fun e => HAC.out (congrArg Prod.fst e) (congrArg Prod.snd e)))]; exact HO4.out⟩, HB4⟩, by simp; omega⟩
      · have HAC := Aside0.mk (show xa = c → ¬ xt = t from fun h => absurd h hac)
        go_wp2_with (at_builtin; go_loud (refine Kd.R_append kPr (w0 := w) w.heap.size rfl (.tmp 30) (.tmp 38) 36 56 (.agg #[.int .i64 0, .string ⟨#[]⟩]) 24 rfl Try.underlying36 infoP rfl (by decide) (by decide) (.slice A6 q6 c6) xs (xa, xt) [.int .i64 xa, .string xt] (fun _ => True) (fun _ => False) rfl rfl ⟨[.int .i64 xa], [.string xt], rfl, rfl, rfl⟩ (fun _ h => h.elim) (fun _ _ => trivial) HO.out HB.out HB.out.size (by rw [HQ6.out]; omega) ?_; intro v4 w4 ho hb4 hg4 hat; have HO4 := Aside0.mk ho; have HB4 := Aside0.mk hb4; clear ho hb4 hg4 hat))
        exact ⟨⟨i + 1, by simp, by omega, ⟨by rw [HT.out, if_pos (show decide (((_, _) : Pr) ≠ (_, _)) = true from decide_eq_true (fun e => HAC.out (congrArg Prod.fst e) (congrArg Prod.snd e)))]; exact HO4.out⟩, HB4⟩, by simp; omega⟩
    · obtain rfl : n = i := by omega
      have hI : ¬ ((n : Int) < n) := by omega
      have hl : xs = remP (c, t) L := by rw [← HXS.out, List.take_of_length_le (by rw [HN.out]; exact Nat.le_refl _)]
      have HRF := Aside0.mk (show RfAt (wr.setCell ⟨r, 0, none⟩ (.slice A6 q6 c6)) b r (remP (c, t) L) from hl ▸ rf_put HR0.out rfl (Kd.R_lower HO.out hb))
      have hlen : (remP (c, t) L).length ≤ 100000 := by rw [← hl, HQ6.out]; exact hq6l
      have HLE := Aside0.mk hlen
      clear hl hlen
      go_wp2_with fail
      refine (rcount_any b r (remP (c, t) L) c _ HRF.out HLE.out q HQC.out).mono ?_
      rintro e w9 ⟨rfl, HB9⟩
      go_wp2
      go_ret
      exact ⟨rfl, ⟨HRF.out.below HB9.out⟩, ⟨((Kp.of_below (S := (· = r)) HB.out).setCell (a := ⟨r, 0, none⟩) (.inl rfl) _).trans (Kp.of_below (S := (· = r)) HB9.out)⟩⟩
end Go.Proofs.Ytjcmmlbonljcnaa.X
