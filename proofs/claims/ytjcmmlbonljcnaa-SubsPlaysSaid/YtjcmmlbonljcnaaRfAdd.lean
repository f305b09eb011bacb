/- The document's Add. -/
import Derived.Test.YtjcmmlbonljcnaaRfRem
import Derived.Sort.Walk0
import Derived.Deep.RegionHeld3
import Derived.Deep.QuietTactic
import Derived.BigQuiet
import Derived.Test.YtjcmmlbonljcnaaXx1
set_option linter.unusedVariables false
set_option linter.unusedSimpArgs false
namespace Go.Proofs.Ytjcmmlbonljcnaa.X
open Go.RowKit Go.Maps Go.ChangeMaps Go.MapKept Go.Proofs.Ytjcmmlbonljcnaa.Mv Go.Proofs.YtjcmmlbonljcnaaW.PrintWords

/-- Where Add stands behind the first so many. -/
def PutAt (p : Pr) (L : List Pr) (i : Nat) (out : List Pr) (put : Bool) : Prop :=
  (put = false ∧ out = L.take i ∧ ∀ q ∈ L.take i, lessP p q = false) ∨ (put = true ∧ ∀ R, insP p (L.take i ++ R) = out ++ R)
theorem ins_skip {p : Pr} : ∀ (A B : List Pr), (∀ q ∈ A, lessP p q = false) → insP p (A ++ B) = A ++ insP p B
  | [], B, _ => rfl
  | q :: A, B, h => by
    rw [List.cons_append]
    conv => lhs; rw [insP]
    rw [if_neg (by rw [h q List.mem_cons_self]; decide), ins_skip A B (fun r hr => h r (List.mem_cons_of_mem _ hr))]
    rfl
theorem put_start (p : Pr) (L : List Pr) : PutAt p L 0 [] false := .inl ⟨rfl, rfl, fun q hq => by cases hq⟩
theorem put_len {p : Pr} {L out : List Pr} {i : Nat} {put : Bool} (h : PutAt p L i out put) (hi : i ≤ L.length) : out.length ≤ i + 1 := by
  rcases h with ⟨_, rfl, _⟩ | ⟨_, h⟩
  · rw [List.length_take]; omega
  · have h1 := congrArg List.length (h [])
    rw [len_ins, List.append_nil, List.append_nil, List.length_take] at h1
    omega
theorem put_yes {p : Pr} {L out : List Pr} {i : Nat} (h : PutAt p L i out false) (hi : i < L.length) (hl : lessP p L[i] = true) : PutAt p L (i + 1) (out ++ [p] ++ [L[i]]) true := by
  rcases h with ⟨_, rfl, h⟩ | ⟨h, _⟩
  · refine .inr ⟨rfl, fun R => ?_⟩
    rw [List.take_succ_eq_append_getElem hi, List.append_assoc, ins_skip _ _ h]
    simp [insP, hl]
  · cases h
theorem put_no {p : Pr} {L out : List Pr} {i : Nat} {put : Bool} (h : PutAt p L i out put) (hi : i < L.length) (hl : put = false → lessP p L[i] = false) : PutAt p L (i + 1) (out ++ [L[i]]) put := by
  rcases h with ⟨rfl, rfl, h⟩ | ⟨rfl, h⟩
  · refine .inl ⟨rfl, (List.take_succ_eq_append_getElem hi).symm, fun q hq => ?_⟩
    rw [List.take_succ_eq_append_getElem hi] at hq
    rcases List.mem_append.1 hq with hq | hq
    · exact h q hq
    · rw [List.mem_singleton.1 hq]; exact hl rfl
  · refine .inr ⟨rfl, fun R => ?_⟩
    rw [List.take_succ_eq_append_getElem hi, List.append_assoc, h, List.append_assoc]
theorem put_end {p : Pr} {L out : List Pr} {put : Bool} (h : PutAt p L L.length out put) : (if put = true then out else out ++ [p]) = insP p L := by
  rcases h with ⟨rfl, rfl, h⟩ | ⟨rfl, h⟩
  · rw [List.take_length] at h ⊢
    have := ins_skip L [] h
    rw [List.append_nil] at this
    rw [if_neg (by decide), this]
    rfl
  · have := h []
    rw [List.take_length, List.append_nil, List.append_nil] at this
    rw [if_pos rfl, this]
theorem less_any (p q : Pr) (w : World) : Calls Try.prog 26 #[.agg #[.int .i64 p.1, .string p.2], .agg #[.int .i64 q.1, .string q.2]] w fun e w' => e = .returned (.bool (lessP p q)) ∧ Aside0 (Below w.heap.size w w') := by
  refine (tipstaffref22_less.calls p.1 p.2 q.1 q.2 (lessP p q) w ?_).mono ?_
  · unfold tipstaffref22_less.f lessP
    by_cases h1 : p.1 < q.1
    · rw [if_pos h1]
      simp [h1]
    · rw [if_neg h1]
      by_cases h2 : p.1 = q.1
      · rw [if_pos h2, Go.Proofs.bytesLess_eq, ByteArray.toList_eq, ByteArray.toList_eq]
        simp [h1, h2]
      · rw [if_neg h2]
        simp [h1, h2]
  · rintro e w' ⟨rfl, h⟩
    exact ⟨rfl, ⟨h⟩⟩

set_option maxHeartbeats 2000000 in
set_option maxRecDepth 100000 in
theorem radd_any (b r : Nat) (L : List Pr) (c : Int) (t : ByteArray) (w : World) (H : RfAt w b r L) (hn : L.length ≤ 10000) (hb : b ≤ w.heap.size) (q : Nat) (hq : (ofP c (addP (c, t) L)).length = q) :
    Calls Try.prog 19 #[.pointer (some ⟨r, 0, none⟩), .int .i64 c, .string t] w fun e w' => e = .returned (.int .i64 q) ∧ Aside0 (RfAt w' b r (addP (c, t) L)) ∧ Aside0 (Kp (· = r) w w') := by
  have HH := Aside0.mk H
  have HQC := Aside0.mk hq
  clear H hq
  go_enter Try.func19, Try.ntmps19
  go_wp2_with fail
  refine (rremove_any b r L c t w HH.out (by omega) hb _ rfl).mono ?_
  rintro e w2 ⟨rfl, HR2, HK2⟩
  obtain ⟨L2, hL2⟩ : ∃ L2, remP (c, t) L = L2 := ⟨_, rfl⟩
  have HL2 := Aside0.mk hL2
  have hn2 : L2.length ≤ 10000 := by rw [← hL2]; exact Nat.le_trans (List.length_filter_le _ _) hn
  obtain ⟨v, h1, h2⟩ := HR2.out.row
  rw [hL2] at h2
  clear hL2
  obtain ⟨A1, c1, rfl, hc1, hC⟩ := Kd.R_reads h2
  obtain ⟨n, hn1⟩ : ∃ n, L2.length = n := ⟨_, rfl⟩
  have HN := Aside0.mk hn1
  rw [hn1] at hn2 hc1 h1
  have H1 := Aside0.mk h1
  have HC := Aside0.mk hC
  have c0 : w2.cell? ⟨r, 0, none⟩ = some (.slice A1 n c1) := by simp [World.cell?, h1]
  clear h1 h2 hC hn1
  go_wp2
  obtain ⟨w3, hw3⟩ : ∃ w3, w2.alloc (.cells #[.int .i64 c, .string t] 56) = w3 := ⟨_, rfl⟩
  have HA3 := Aside0.mk (show Below w2.heap.size w2 w3 by rw [← hw3]; exact below_alloc (Below.refl _ _) _)
  have HC3 := Aside0.mk (show w3.heap[w2.heap.size]? = some (.cells #[.int .i64 c, .string t] 56 (0, 0)) by rw [← hw3]; have := heap_alloc_new w2 (.cells #[.int .i64 c, .string t] 56); simpa using this)
  obtain ⟨gp, hgp⟩ : ∃ gp, w2.heap.size = gp := ⟨_, rfl⟩
  rw [hw3, hgp]
  rw [hgp] at HC3
  have HGP := Aside0.mk hgp
  replace H1 := Aside0.mk ((HA3.out.block r (pwlt H1.out)).trans H1.out)
  replace HC := Aside0.mk (Kd.C_below HC.out HA3.out)
  have hs3 : w3.heap.size = gp + 1 := by rw [← hw3, ← hgp]; simp
  clear hw3 hgp c0
  have HB0 := Aside0.mk (below_alloc (Below.refl w3.heap.size w3) (.cells #[] 56))
  have HO0 := Aside0.mk (show Kd.R kPr 56 (w3.alloc (.cells #[] 56)) w3.heap.size (fun _ => True) (.slice (some ⟨gp + 1, 0, none⟩) 0 0) [] by
    have h : Kd.R kPr 56 (w3.alloc (.cells #[] 56)) w3.heap.size (fun _ => True) (.slice (some ⟨w3.heap.size, 0, none⟩) 0 0) [] := ⟨fun _ _ => trivial, OwnRow.lit w3 w3.heap.size (ps := []) (inner := []) (Reps.none _ _) (Nat.le_refl _) (by simp)⟩
    have e : (Value.slice (some ⟨gp + 1, 0, none⟩) 0 0) = .slice (some ⟨w3.heap.size, 0, none⟩) 0 0 := by rw [hs3]
    rw [e]
    exact h)
  have HC0 := Aside0.mk (show w3.cell? ⟨r, 0, none⟩ = some (.slice A1 n c1) by simp [World.cell?, H1.out])
  clear hs3
  go_loopw [8, 9, 10] (fun v8 v9 v10 wr => ∃ (i : Nat) (out : List Pr) (put : Bool), v10 = .int .i64 i ∧ v9 = .bool put ∧ i ≤ n ∧ Aside0 (Kd.R kPr 56 wr w3.heap.size (fun _ => True) v8 out) ∧ Aside0 (PutAt (c, t) L2 i out put) ∧ Aside0 (Below w3.heap.size w3 wr)) (fun _ _ v10 _ => n - (match v10 with | .int _ i => i.toNat | _ => 0))
  case atStart => exact ⟨0, [], false, rfl, rfl, Nat.zero_le _, HO0, ⟨put_start _ _⟩, HB0⟩
  case round =>
    clear HO0 HB0
    obtain ⟨i, xs, put, rfl, rfl, hi, HO, HPA, HB⟩ := hrel
    have HR0 := Aside0.mk ((HB.out.block r (pwlt H1.out)).trans H1.out)
    have c0 : wr.cell? ⟨r, 0, none⟩ = some (.slice A1 n c1) := by simp [World.cell?, HR0.out]
    obtain ⟨A6, c6, e6⟩ := Kd.R_slice HO.out
    obtain ⟨q6, hq6⟩ : ∃ q, xs.length = q := ⟨_, rfl⟩
    have hq6l : q6 ≤ 20000 := by rw [← hq6]; exact Nat.le_trans (put_len HPA.out (by rw [HN.out]; exact hi)) (by omega)
    rw [hq6] at e6
    subst e6
    have HQ6 := Aside0.mk hq6
    clear hq6
    by_cases hlt : i < n
    · have hI : (i : Int) < n := by omega
      obtain ⟨ad, e0, _⟩ := (HC.out).2.2 (by rw [HN.out]; omega)
      subst e0
      have hiL : i < L2.length := by rw [HN.out]; exact hlt
      obtain ⟨d0, d1⟩ := pr_cells HC.out hiL
      have HPN := Aside0.mk (fun h => put_no HPA.out hiL h)
      have HPY := Aside0.mk (fun (h : put = false) hl => put_yes (h ▸ HPA.out) hiL hl)
      obtain ⟨x, hx⟩ : ∃ x, L2[i] = x := ⟨_, rfl⟩
      obtain ⟨p, hp⟩ : ∃ p, ad.add (i * 2) = p := ⟨_, rfl⟩
      rw [hx, hp] at d0 d1
      rw [hx] at HPN HPY
      obtain ⟨xa, xt⟩ := x
      simp only at d0 d1
      have HD0 := Aside0.mk d0
      have HD1 := Aside0.mk d1
      have d0 := (HB.out.cell (World.block_lt_of_cell? _ _ d0)).trans d0
      have d1 := (HB.out.cell (World.block_lt_of_cell? _ _ d1)).trans d1
      clear hx
      have HBx := Aside0.mk ((HB.out.block gp (pwlt HC3.out)).trans HC3.out)
      have b0 : wr.cell? ⟨gp, 0, none⟩ = some (.int .i64 c) := by simp [World.cell?, HBx.out]
      have b1 : wr.cell? ⟨gp, 1, none⟩ = some (.string t) := by simp [World.cell?, HBx.out]
      cases put with
      | true =>
        go_wp2_with fail
        go_quiet (fail)
        have HOq := Aside0.mk (Kd.R_below HO.out (pw_below_drewN (Below.refl _ _) nq))
        have HBq := Aside0.mk (pw_below_drewN HB.out nq)
        go_wp2_with (at_builtin; go_loud (refine Kd.R_append kPr (w0 := w3) w3.heap.size rfl (.tmp 45) (.tmp 53) 36 56 (.agg #[.int .i64 0, .string ⟨#[]⟩]) 24 rfl Try.underlying36 infoP rfl (by decide) (by decide) (.slice A6 q6 c6) xs (xa, xt) [.int .i64 xa, .string xt] (fun _ => True) (fun _ => False) rfl rfl ⟨[.int .i64 xa], [.string xt], rfl, rfl, rfl⟩ (fun _ h => h.elim) (fun _ _ => trivial) HOq.out HBq.out HBq.out.size (by rw [HQ6.out]; omega) ?_; intro v4 wv4 hov4 hbv4 hgv4 hatv4; have HOv4 := Aside0.mk hov4; have HBv4 := Aside0.mk hbv4; clear hov4 hbv4 hgv4 hatv4))
        exact ⟨⟨i + 1, xs ++ [(xa, xt)], true, by simp, rfl, by omega, HOv4, ⟨HPN.out (fun h => by cases h)⟩, HBv4⟩, by simp; omega⟩
      | false =>
        go_wp2_with fail
        go_region_held3 (fun wz => wz.cell? ⟨gp, 0, none⟩ = some (.int .i64 c) ∧ wz.cell? ⟨gp, 1, none⟩ = some (.string t) ∧ wz.cell? ⟨r, 0, none⟩ = some (.slice (some ad) n c1) ∧ wz.cell? p = some (.int .i64 xa) ∧ wz.cell? { block := p.block, off := p.off + 1 } = some (.string xt)) (first | exact ⟨b0, b1, c0, d0, d1⟩ | exact ⟨x0, x1, x2, x3, x4⟩) (first
          | (go_at_call 26
             refine (less_any (c, t) (xa, xt) _).mono ?_
             rintro e w4 ⟨rfl, HB4⟩
             have x0 := (HB4.out.cell (World.block_lt_of_cell? _ _ b0)).trans b0
             have x1 := (HB4.out.cell (World.block_lt_of_cell? _ _ b1)).trans b1
             have x2 := (HB4.out.cell (World.block_lt_of_cell? _ _ c0)).trans c0
             have x3 := (HB4.out.cell (World.block_lt_of_cell? _ _ d0)).trans d0
             have x4 := (HB4.out.cell (World.block_lt_of_cell? _ _ d1)).trans d1))
        have HB34 := Aside0.mk (show Below wr.heap.size wr w4 from ⟨HB4.out.os, HB4.out.tape, HB4.out.output, HB4.out.size, HB4.out.block⟩)
        have HOw := Aside0.mk (Kd.R_below HO.out HB34.out)
        have HBw := Aside0.mk (below_then HB.out HB.out.size HB34.out)
        by_cases hl : lessP (c, t) (xa, xt) = true
        · have HLL := Aside0.mk hl
          rw [hl]
          clear hl
          go_wp2_with (first
            | (at_builtin; go_loud (refine Kd.R_append kPr (w0 := w3) w3.heap.size rfl (.tmp 41) (.tmp 43) 36 56 (.agg #[.int .i64 0, .string ⟨#[]⟩]) 24 rfl Try.underlying36 infoP rfl (by decide) (by decide) (.slice A6 q6 c6) xs (c, t) [.int .i64 c, .string t] (fun _ => True) (fun _ => False) (by rfl) (by rfl) ⟨[.int .i64 c], [.string t], rfl, rfl, rfl⟩ (fun _ h => h.elim) (fun _ _ => trivial) HOw.out HBw.out HBw.out.size (by rw [HQ6.out]; omega) ?_; intro v4 wv4 hov4 hbv4 hgv4 hatv4; have HOv4 := Aside0.mk hov4; have HBv4 := Aside0.mk hbv4; clear hov4 hbv4 hgv4 hatv4; have y2 := (HBv4.out.cell (World.block_lt_of_cell? _ _ HC0.out)).trans HC0.out; have y3 := (HBv4.out.cell (World.block_lt_of_cell? _ _ HD0.out)).trans HD0.out; have y4 := (HBv4.out.cell (World.block_lt_of_cell? _ _ HD1.out)).trans HD1.out))
            | (at_builtin; go_loud (refine Kd.R_append kPr (w0 := w3) w3.heap.size rfl (.tmp 45) (.tmp 53) 36 56 (.agg #[.int .i64 0, .string ⟨#[]⟩]) 24 rfl Try.underlying36 infoP rfl (by decide) (by decide) _ (xs ++ [(c, t)]) (xa, xt) [.int .i64 xa, .string xt] (fun _ => True) (fun _ => False) (by rfl) (by rfl) ⟨[.int .i64 xa], [.string xt], rfl, rfl, rfl⟩ (fun _ h => h.elim) (fun _ _ => trivial) HOv4.out HBv4.out HBv4.out.size (by rw [List.length_append, HQ6.out]; simp; omega) ?_; intro v5 wv5 hov5 hbv5 hgv5 hatv5; have HOv5 := Aside0.mk hov5; have HBv5 := Aside0.mk hbv5; clear hov5 hbv5 hgv5 hatv5)))
          exact ⟨⟨i + 1, xs ++ [(c, t)] ++ [(xa, xt)], true, by simp, rfl, by omega, HOv5, ⟨HPY.out (by first | trivial | rfl) HLL.out⟩, HBv5⟩, by simp; omega⟩
        · have hl : lessP (c, t) (xa, xt) = false := by simpa using hl
          have HLL := Aside0.mk hl
          go_wp2_with (at_builtin; go_loud (refine Kd.R_append kPr (w0 := w3) w3.heap.size rfl (.tmp 45) (.tmp 53) 36 56 (.agg #[.int .i64 0, .string ⟨#[]⟩]) 24 rfl Try.underlying36 infoP rfl (by decide) (by decide) (.slice A6 q6 c6) xs (xa, xt) [.int .i64 xa, .string xt] (fun _ => True) (fun _ => False) rfl rfl ⟨[.int .i64 xa], [.string xt], rfl, rfl, rfl⟩ (fun _ h => h.elim) (fun _ _ => trivial) HOw.out HBw.out HBw.out.size (by rw [HQ6.out]; omega) ?_; intro v4 wv4 hov4 hbv4 hgv4 hatv4; have HOv4 := Aside0.mk hov4; have HBv4 := Aside0.mk hbv4; clear hov4 hbv4 hgv4 hatv4))
          exact ⟨⟨i + 1, xs ++ [(xa, xt)], false, by simp, rfl, by omega, HOv4, ⟨HPN.out (fun _ => HLL.out)⟩, HBv4⟩, by simp; omega⟩
    · obtain rfl : n = i := by omega
      have hI : ¬ ((n : Int) < n) := by omega
      have hpe := put_end (show PutAt (c, t) L2 L2.length xs put by rw [HN.out]; exact HPA.out)
      have hadd : addP (c, t) L = insP (c, t) L2 := by rw [← HL2.out]; rfl
      have hleA : (addP (c, t) L).length ≤ 100000 := Nat.le_trans len_add (by omega)
      have HLA := Aside0.mk hleA
      clear hleA
      cases put with
      | true =>
        have hres : xs = addP (c, t) L := by rw [hadd, ← hpe]; rfl
        have HRF := Aside0.mk (show RfAt (wr.setCell ⟨r, 0, none⟩ (.slice A6 q6 c6)) b r (addP (c, t) L) from hres ▸ rf_put HR0.out rfl (Kd.R_lower HO.out (Nat.le_trans hb (Nat.le_trans HK2.out.size HA3.out.size))))
        have HKF := Aside0.mk (((HK2.out.trans (Kp.of_below (S := (· = r)) HA3.out)).trans (Kp.of_below (S := (· = r)) HB.out)).setCell (a := ⟨r, 0, none⟩) (.inl rfl) (.slice A6 q6 c6))
        have f0 : wr.frozen? ⟨r, 0, none⟩ = false := by simp [World.frozen?, HR0.out]
        clear hres hpe hadd
        go_wp2_with fail
        refine (rcount_any b r (addP (c, t) L) c _ HRF.out HLA.out q HQC.out).mono ?_
        rintro e w9 ⟨rfl, HB9⟩
        go_wp2
        go_ret
        exact ⟨rfl, ⟨HRF.out.below HB9.out⟩, ⟨HKF.out.trans (Kp.of_below (S := (· = r)) HB9.out)⟩⟩
      | false =>
        have HRES := Aside0.mk (show xs ++ [(c, t)] = addP (c, t) L by rw [hadd, ← hpe]; rfl)
        have HBx := Aside0.mk ((HB.out.block gp (pwlt HC3.out)).trans HC3.out)
        have b0 : wr.cell? ⟨gp, 0, none⟩ = some (.int .i64 c) := by simp [World.cell?, HBx.out]
        have b1 : wr.cell? ⟨gp, 1, none⟩ = some (.string t) := by simp [World.cell?, HBx.out]
        clear hpe hadd
        go_wp2_with (at_builtin; go_loud (refine Kd.R_append kPr (w0 := w3) w3.heap.size rfl (.tmp 57) (.tmp 59) 36 56 (.agg #[.int .i64 0, .string ⟨#[]⟩]) 24 rfl Try.underlying36 infoP rfl (by decide) (by decide) (.slice A6 q6 c6) xs (c, t) [.int .i64 c, .string t] (fun _ => True) (fun _ => False) rfl rfl ⟨[.int .i64 c], [.string t], rfl, rfl, rfl⟩ (fun _ h => h.elim) (fun _ _ => trivial) HO.out HB.out HB.out.size (by rw [HQ6.out]; omega) ?_; intro v4 w4 ho hb4 hg4 hat; obtain ⟨A7, c7, e7⟩ := Kd.R_slice ho; obtain ⟨q7, hq7⟩ : ∃ q, (xs ++ [(c, t)]).length = q := ⟨_, rfl⟩; rw [hq7] at e7; subst e7; clear hq7; have HO4 := Aside0.mk ho; have HB4 := Aside0.mk hb4; have HRr := Aside0.mk ((hb4.block r (pwlt H1.out)).trans H1.out); have z0 : w4.cell? ⟨r, 0, none⟩ = some (.slice A1 n c1) := (by simp [World.cell?, HRr.out]); have f0 : w4.frozen? ⟨r, 0, none⟩ = false := (by simp [World.frozen?, HRr.out]); clear ho hb4 hg4 hat))
        have HRF := Aside0.mk (show RfAt (w4.setCell ⟨r, 0, none⟩ (.slice A7 q7 c7)) b r (addP (c, t) L) from HRES.out ▸ rf_put HRr.out rfl (Kd.R_lower HO4.out (Nat.le_trans hb (Nat.le_trans HK2.out.size HA3.out.size))))
        have HKF := Aside0.mk (((HK2.out.trans (Kp.of_below (S := (· = r)) HA3.out)).trans (Kp.of_below (S := (· = r)) HB4.out)).setCell (a := ⟨r, 0, none⟩) (.inl rfl) (.slice A7 q7 c7))
        refine (rcount_any b r (addP (c, t) L) c _ HRF.out HLA.out q HQC.out).mono ?_
        rintro e w9 ⟨rfl, HB9⟩
        go_wp2
        go_ret
        exact ⟨rfl, ⟨HRF.out.below HB9.out⟩, ⟨HKF.out.trans (Kp.of_below (S := (· = r)) HB9.out)⟩⟩
end Go.Proofs.Ytjcmmlbonljcnaa.X
