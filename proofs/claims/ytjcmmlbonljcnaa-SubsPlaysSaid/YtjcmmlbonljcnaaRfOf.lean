/- The document's pairs in memory; whom one hears, and who hears. -/
import Derived.Test.YtjcmmlbonljcnaaHShown
set_option linter.unusedVariables false
set_option linter.unusedSimpArgs false
namespace Go.Proofs.Ytjcmmlbonljcnaa.X
open Go.RowKit Go.Maps Go.ChangeMaps Go.MapKept Go.Proofs.Ytjcmmlbonljcnaa.Mv Go.Proofs.YtjcmmlbonljcnaaW.PrintWords

abbrev kPr : Kd Pr := Kd.pair (Kd.int .i64) Kd.string
/-- The document's Subs at block r; its row lies behind b. -/
structure RfAt (w : World) (b r : Nat) (L : List Pr) : Prop where
  row : ∃ v, w.heap[r]? = some (.cells #[v] 38 (0, 0)) ∧ Kd.R kPr 56 w b (fun _ => True) v L
theorem RfAt.below {w w1 : World} {b r : Nat} {L : List Pr} (h : RfAt w b r L) (hb : Below w.heap.size w w1) : RfAt w1 b r L := by
  obtain ⟨v, h1, h2⟩ := h.row
  exact ⟨v, (hb.block r (pwlt h1)).trans h1, Kd.R_below h2 hb⟩
theorem add_in2 (ad : Addr) (a b : Nat) (hb : b ≠ 0) : ad.add (a + b) = { block := (ad.add a).block, off := (ad.add a).off + b } := by
  unfold Addr.add
  by_cases h : a = 0
  · subst h; simp [hb]
  · simp [h, hb, Nat.add_assoc]
theorem pr_cells {w : World} {ad : Addr} {L : List Pr} (h : kPr.C w (some ad) L.length L) {i : Nat} (hi : i < L.length) :
    w.cell? (ad.add (i * 2)) = some (.int .i64 L[i].1) ∧ w.cell? { block := (ad.add (i * 2)).block, off := (ad.add (i * 2)).off + 1 } = some (.string L[i].2) := by
  obtain ⟨ad', c, e, h1, h2, h3⟩ := Kd.C_get h ((0, ByteArray.empty) : Pr) (i : Int) (by omega) (by omega)
  cases e
  rw [Int.toNat_natCast] at h2 h3
  have hg : L.getD i ((0, ByteArray.empty) : Pr) = L[i] := by rw [List.getD_eq_getElem?_getD, List.getElem?_eq_getElem hi]; rfl
  rw [hg] at h2
  obtain ⟨c0, c1, rfl, rfl, rfl⟩ := h2
  refine ⟨h3 0 _ rfl, ?_⟩
  rw [← add_in2 ad (i * 2) 1 (by decide)]
  exact h3 1 _ rfl
theorem of_take {L : List Pr} {i : Nat} (hi : i < L.length) (c : Int) : ofP c (L.take (i + 1)) = ofP c (L.take i) ++ (if L[i].1 = c then [L[i].2] else []) := by
  unfold ofP
  rw [List.take_succ_eq_append_getElem hi, List.filter_append, List.map_append]
  congr 1
  by_cases h : L[i].1 = c <;> simp [h]
theorem hear_take {L : List Pr} {i : Nat} (hi : i < L.length) (s : ByteArray) : hearP s (L.take (i + 1)) = hearP s (L.take i) ++ (if L[i].2 = s then [L[i].1] else []) := by
  unfold hearP
  rw [List.take_succ_eq_append_getElem hi, List.filter_append, List.map_append]
  congr 1
  by_cases h : L[i].2 = s <;> simp [h]

set_option maxHeartbeats 1000000 in
set_option maxRecDepth 100000 in
theorem rof_any (b r : Nat) (L : List Pr) (c : Int) (w : World) (H : RfAt w b r L) (hn : L.length ≤ 100000) (l : List ByteArray) (hl : ofP c L = l) (q : Nat) (hq : l.length = q) :
    Calls Try.prog 20 #[.pointer (some ⟨r, 0, none⟩), .int .i64 c] w fun e w' => ∃ A k, e = .returned (.slice A q k) ∧ q ≤ k ∧ Aside0 (Kd.C Kd.string w' A l.length l) ∧ Aside0 (Below w.heap.size w w') := by
  obtain ⟨v, h1, h2⟩ := H.row
  obtain ⟨A1, c1, rfl, hc1, hC⟩ := Kd.R_reads h2
  obtain ⟨n, hn1⟩ : ∃ n, L.length = n := ⟨_, rfl⟩
  have HN := Aside0.mk hn1
  rw [hn1] at hn hc1 h1
  have H1 := Aside0.mk h1
  have HC := Aside0.mk hC
  have HLq := Aside0.mk (And.intro hl hq)
  have c0 : w.cell? ⟨r, 0, none⟩ = some (.slice A1 n c1) := by simp [World.cell?, h1]
  clear h1 h2 hC hl hq hn1 H
  go_enter Try.func20, Try.ntmps20
  go_wp2
  have HB0 := Aside0.mk (below_alloc (Below.refl w.heap.size w) (.cells #[] 9))
  have HO0 := Aside0.mk (show Kd.R Kd.string 9 (w.alloc (.cells #[] 9)) w.heap.size (fun _ => True) (.slice (some ⟨w.heap.size, 0, none⟩) 0 0) [] from ⟨fun _ _ => trivial, OwnRow.lit w w.heap.size (ps := []) (inner := []) (Reps.none _ _) (Nat.le_refl _) (by simp)⟩)
  go_loopw [5, 6] (fun v5 v6 wr => ∃ i : Nat, v6 = .int .i64 i ∧ i ≤ n ∧ Aside0 (Kd.R Kd.string 9 wr w.heap.size (fun _ => True) v5 (ofP c (L.take i))) ∧ Aside0 (Below w.heap.size w wr)) (fun _ v6 _ => n - (match v6 with | .int _ i => i.toNat | _ => 0))
  case atStart => exact ⟨0, rfl, Nat.zero_le _, HO0, HB0⟩
  case round =>
    clear HO0 HB0 c0
    obtain ⟨i, rfl, hi, HO, HB⟩ := hrel
    have c0 : wr.cell? ⟨r, 0, none⟩ = some (.slice A1 n c1) := by have := (HB.out.block r (pwlt H1.out)).trans H1.out; simp [World.cell?, this]
    obtain ⟨A6, c6, e6⟩ := Kd.R_slice HO.out
    obtain ⟨xs, hxs⟩ : ∃ xs, ofP c (L.take i) = xs := ⟨_, rfl⟩
    obtain ⟨q6, hq6⟩ : ∃ q, xs.length = q := ⟨_, rfl⟩
    have hq6l : q6 ≤ 100000 := by rw [← hq6, ← hxs]; exact Nat.le_trans len_of (by rw [List.length_take, HN.out]; omega)
    rw [hxs, hq6] at e6
    subst e6
    have HXS := Aside0.mk hxs
    have HQ6 := Aside0.mk hq6
    rw [hxs] at HO
    clear hxs hq6
    by_cases hlt : i < n
    · have hI : (i : Int) < n := by omega
      obtain ⟨ad, e0, _⟩ := (HC.out).2.2 (by rw [HN.out]; omega)
      subst e0
      have hiL : i < L.length := by rw [HN.out]; exact hlt
      have HT := Aside0.mk (of_take hiL c)
      obtain ⟨d0, d1⟩ := pr_cells HC.out hiL
      obtain ⟨x, hx⟩ : ∃ x, L[i] = x := ⟨_, rfl⟩
      obtain ⟨p, hp⟩ : ∃ p, ad.add (i * 2) = p := ⟨_, rfl⟩
      rw [hx, hp] at d0 d1
      rw [hx, HXS.out] at HT
      obtain ⟨xa, xt⟩ := x
      simp only at d0 d1 HT
      have d0 := (HB.out.cell (World.block_lt_of_cell? _ _ d0)).trans d0
      have d1 := (HB.out.cell (World.block_lt_of_cell? _ _ d1)).trans d1
      clear hx
      by_cases hac : xa = c
      · have HAC := Aside0.mk hac
        subst hac
        go_wp2_with (at_builtin; go_loud (refine Kd.R_append Kd.string (w0 := w) w.heap.size rfl (.tmp 27) (.tmp 36) 22 9 (.string ⟨#[]⟩) 16 rfl Try.underlying22 infoS rfl (by decide) (by decide) (.slice A6 q6 c6) xs xt [.string xt] (fun _ => True) (fun _ => False) rfl rfl rfl (fun _ h => h.elim) (fun _ _ => trivial) HO.out HB.out HB.out.size (by rw [HQ6.out]; omega) ?_; intro v4 w4 ho hb4 hg4 hat; have HO4 := Aside0.mk ho; have HB4 := Aside0.mk hb4; clear ho hb4 hg4 hat))
        exact ⟨⟨i + 1, by simp, by omega, ⟨by rw [HT.out, if_pos rfl]; exact HO4.out⟩, HB4⟩, by simp; omega⟩
      · have HAC := Aside0.mk hac
        go_wp2
        exact ⟨⟨i + 1, by simp, by omega, ⟨by rw [HT.out, if_neg HAC.out, List.append_nil]; exact HO.out⟩, HB⟩, by simp; omega⟩
    · obtain rfl : n = i := by omega
      have hI : ¬ ((n : Int) < n) := by omega
      go_wp2
      go_ret
      have hl : xs = l := by rw [← HXS.out, List.take_of_length_le (by rw [HN.out]; exact Nat.le_refl _)]; exact HLq.out.1
      have hq := HQ6.out
      have hq2 := HLq.out.2
      subst hl
      obtain rfl : q6 = q := by omega
      obtain ⟨_, h2, h3⟩ := Kd.R_reads' HO.out
      exact ⟨A6, c6, rfl, h2, ⟨h3⟩, HB⟩

set_option maxHeartbeats 1000000 in
set_option maxRecDepth 100000 in
theorem rhear_any (b r : Nat) (L : List Pr) (c : ByteArray) (w : World) (H : RfAt w b r L) (hn : L.length ≤ 100000) (l : List Int) (hl : hearP c L = l) (q : Nat) (hq : l.length = q) :
    Calls Try.prog 22 #[.pointer (some ⟨r, 0, none⟩), .string c] w fun e w' => ∃ A k, e = .returned (.slice A q k) ∧ q ≤ k ∧ Aside0 (Kd.C (Kd.int .i64) w' A l.length l) ∧ Aside0 (Below w.heap.size w w') := by
  obtain ⟨v, h1, h2⟩ := H.row
  obtain ⟨A1, c1, rfl, hc1, hC⟩ := Kd.R_reads h2
  obtain ⟨n, hn1⟩ : ∃ n, L.length = n := ⟨_, rfl⟩
  have HN := Aside0.mk hn1
  rw [hn1] at hn hc1 h1
  have H1 := Aside0.mk h1
  have HC := Aside0.mk hC
  have HLq := Aside0.mk (And.intro hl hq)
  have c0 : w.cell? ⟨r, 0, none⟩ = some (.slice A1 n c1) := by simp [World.cell?, h1]
  clear h1 h2 hC hl hq hn1 H
  go_enter Try.func22, Try.ntmps22
  go_wp2
  have HB0 := Aside0.mk (below_alloc (Below.refl w.heap.size w) (.cells #[] 3))
  have HO0 := Aside0.mk (show Kd.R (Kd.int .i64) 3 (w.alloc (.cells #[] 3)) w.heap.size (fun _ => True) (.slice (some ⟨w.heap.size, 0, none⟩) 0 0) [] from ⟨fun _ _ => trivial, OwnRow.lit w w.heap.size (ps := []) (inner := []) (Reps.none _ _) (Nat.le_refl _) (by simp)⟩)
  go_loopw [5, 6] (fun v5 v6 wr => ∃ i : Nat, v6 = .int .i64 i ∧ i ≤ n ∧ Aside0 (Kd.R (Kd.int .i64) 3 wr w.heap.size (fun _ => True) v5 (hearP c (L.take i))) ∧ Aside0 (Below w.heap.size w wr)) (fun _ v6 _ => n - (match v6 with | .int _ i => i.toNat | _ => 0))
  case atStart => exact ⟨0, rfl, Nat.zero_le _, HO0, HB0⟩
  case round =>
    clear HO0 HB0 c0
    obtain ⟨i, rfl, hi, HO, HB⟩ := hrel
    have c0 : wr.cell? ⟨r, 0, none⟩ = some (.slice A1 n c1) := by have := (HB.out.block r (pwlt H1.out)).trans H1.out; simp [World.cell?, this]
    obtain ⟨A6, c6, e6⟩ := Kd.R_slice HO.out
    obtain ⟨xs, hxs⟩ : ∃ xs, hearP c (L.take i) = xs := ⟨_, rfl⟩
    obtain ⟨q6, hq6⟩ : ∃ q, xs.length = q := ⟨_, rfl⟩
    have hq6l : q6 ≤ 100000 := by rw [← hq6, ← hxs]; exact Nat.le_trans len_hear (by rw [List.length_take, HN.out]; omega)
    rw [hxs, hq6] at e6
    subst e6
    have HXS := Aside0.mk hxs
    have HQ6 := Aside0.mk hq6
    rw [hxs] at HO
    clear hxs hq6
    by_cases hlt : i < n
    · have hI : (i : Int) < n := by omega
      obtain ⟨ad, e0, _⟩ := (HC.out).2.2 (by rw [HN.out]; omega)
      subst e0
      have hiL : i < L.length := by rw [HN.out]; exact hlt
      have HT := Aside0.mk (hear_take hiL c)
      obtain ⟨d0, d1⟩ := pr_cells HC.out hiL
      obtain ⟨x, hx⟩ : ∃ x, L[i] = x := ⟨_, rfl⟩
      obtain ⟨p, hp⟩ : ∃ p, ad.add (i * 2) = p := ⟨_, rfl⟩
      rw [hx, hp] at d0 d1
      rw [hx, HXS.out] at HT
      obtain ⟨xa, xt⟩ := x
      simp only at d0 d1 HT
      have d0 := (HB.out.cell (World.block_lt_of_cell? _ _ d0)).trans d0
      have d1 := (HB.out.cell (World.block_lt_of_cell? _ _ d1)).trans d1
      clear hx
      by_cases hac : xt = c
      · have HAC := Aside0.mk hac
        subst hac
        go_wp2_with (at_builtin; go_loud (refine Kd.R_append (Kd.int .i64) (w0 := w) w.heap.size rfl (.tmp 27) (.tmp 36) 31 3 (.int .i64 0) 8 rfl Try.underlying31 infoI rfl (by decide) (by decide) (.slice A6 q6 c6) xs xa [.int .i64 xa] (fun _ => True) (fun _ => False) rfl rfl rfl (fun _ h => h.elim) (fun _ _ => trivial) HO.out HB.out HB.out.size (by rw [HQ6.out]; omega) ?_; intro v4 w4 ho hb4 hg4 hat; have HO4 := Aside0.mk ho; have HB4 := Aside0.mk hb4; clear ho hb4 hg4 hat))
        exact ⟨⟨i + 1, by simp, by omega, ⟨by rw [HT.out, if_pos rfl]; exact HO4.out⟩, HB4⟩, by simp; omega⟩
      · have HAC := Aside0.mk hac
        have hbe : (xt.toList == c.toList) = false := by rw [beq_eq_false_iff_ne]; intro e; exact hac (toList_iff.1 e)
        go_wp2
        exact ⟨⟨i + 1, by simp, by omega, ⟨by rw [HT.out, if_neg HAC.out, List.append_nil]; exact HO.out⟩, HB⟩, by simp; omega⟩
    · obtain rfl : n = i := by omega
      have hI : ¬ ((n : Int) < n) := by omega
      go_wp2
      go_ret
      have hl : xs = l := by rw [← HXS.out, List.take_of_length_le (by rw [HN.out]; exact Nat.le_refl _)]; exact HLq.out.1
      have hq := HQ6.out
      have hq2 := HLq.out.2
      subst hl
      obtain rfl : q6 = q := by omega
      obtain ⟨_, h2, h3⟩ := Kd.R_reads' HO.out
      exact ⟨A6, c6, rfl, h2, ⟨h3⟩, HB⟩
end Go.Proofs.Ytjcmmlbonljcnaa.X
