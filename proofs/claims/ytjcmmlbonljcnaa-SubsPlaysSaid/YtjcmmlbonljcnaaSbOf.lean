/- Walks: a connection's channels, a channel's connections. -/
import Derived.Test.YtjcmmlbonljcnaaSbSort
set_option linter.unusedVariables false
set_option linter.unusedSimpArgs false
namespace Go.Proofs.Ytjcmmlbonljcnaa.X
open Go.RowKit Go.Maps Go.ChangeMaps Go.MapKept Go.Proofs.Ytjcmmlbonljcnaa.Mv Go.Proofs.YtjcmmlbonljcnaaW.PrintWords

theorem RangeV.noobj {P : Program} {k : TypeId} {w : World} {m r n : Nat} {M : Lit → Option Value} {left : Lit → Bool} {cnt : Nat} (h : RangeV P k w m r n M left cnt) (cs : Array Value) (t : TypeId) (fz : Nat × Nat) : w.heap[r]? ≠ some (.cells cs t fz) := by
  obtain ⟨D, ⟨es, clock, since, seen, c0, h1, h2, h3, h4, h5, rest⟩, hM⟩ := h
  rw [h5]
  intro e
  cases e
theorem MapV.noobj {P : Program} {k : TypeId} {w : World} {m n : Nat} {M : Lit → Option Value} (h : MapV P k w m n M) (cs : Array Value) (t : TypeId) (fz : Nat × Nat) : w.heap[m]? ≠ some (.cells cs t fz) := by
  obtain ⟨D, ⟨es, clock, h1, _⟩, _⟩ := h
  rw [h1]
  intro e
  cases e
theorem row_ne {α : Type} {d : Kd α} {e b i : Nat} {w : World} {ok : Nat → Prop} {v : Value} {xs : List α} (h : d.R e w b ok v xs) (hi : ∀ cs t fz, w.heap[i]? ≠ some (.cells cs t fz)) : some i ≠ v.ownBlock := by
  intro he
  obtain ⟨inner, ho⟩ := Kd.R_own h
  obtain ⟨cells, hc⟩ := own_typed ho i he.symm
  exact hi _ _ _ hc
/-- A row stays when a round takes a step. -/
theorem R_next {α : Type} {d : Kd α} {e : Nat} {P : Program} {k : TypeId} {w w1 : World} {m r n b : Nat} {M : Lit → Option Value} {left : Lit → Bool} {cnt : Nat} {ok : Nat → Prop} {v : Value} {xs : List α} (h : d.R e w b ok v xs) (hr : RangeV P k w m r n M left cnt) (hg : w.grownBy w1 (some r)) : d.R e w1 b ok v xs :=
  Kd.R_mono (Kd.R_move (Kd.R_bound h) (fun i hi => by
    obtain ⟨_, _, hlt, q, _, cells, hc⟩ := hi
    exact hg.block i hlt (fun he => by
      injection he with he
      subst he
      exact RangeV.noobj hr _ _ _ hc))) (fun _ h => h.1)
theorem infoS : (Try.prog.info? 9).map (fun i => (i.zero, i.size, i.bytes)) = some (some (.string ⟨#[]⟩), 1, 16) := by kernel_rfl
theorem infoI : (Try.prog.info? 3).map (fun i => (i.zero, i.size, i.bytes)) = some (some (.int .i64 0), 1, 8) := by kernel_rfl
structure PrS where
  a : Int
  t : ByteArray
structure OneS where
  u : Nat
def mkP (x : PrS) : Value := .agg #[.int .i64 x.a, .string x.t]
theorem prV_inj {p q : Pr} (h : prV p = prV q) : p = q := by
  obtain ⟨a, b⟩ := p
  obtain ⟨c, d⟩ := q
  simp [prV] at h
  rw [h.1, h.2]
theorem rel_mem {M : Lit → Option Value} {L : List Pr} (h : RelM M L) (hok : ∀ p ∈ L, PrOk p) {x : Pr} {kl : Lit} {v : Value} (hk : keyOf Try.prog 52 (prV x) = some kl) (hM : M kl = some v) : x ∈ L ∧ kl = prL x := by
  obtain ⟨p, e1, e2, hp⟩ := keyP_inv hk
  obtain rfl := prV_inj e1
  obtain ⟨_, q, hq, e3⟩ := h.1 kl v hM
  rw [e2] at e3
  exact ⟨by rw [prL_inj hp (hok q hq) e3]; exact hq, e2⟩

/-- Where a round stands. -/
def ColRel {α : Type} (d : Kd α) (e : Nat) (f : Pr → α) (F : Pr → Bool) (m n : Nat) (M : Lit → Option Value) (L : List Pr) (w wr : World) (v : Value) : Prop :=
  ∃ left cnt ps, RangeV Try.prog 52 wr m w.heap.size n M left cnt ∧ d.R e wr w.heap.size (fun _ => True) v (ps.map f) ∧ Coll F L ps left ∧ Below w.heap.size w wr ∧ ps.length + cnt ≤ n

theorem sort_calls_q {w0 : World} {base : Nat} {ok : Nat → Prop} (A : Option Addr) (c : Nat) (xs : List ByteArray) (W : World) (q : Nat) (hq : xs.length = q) (HR : Kd.R Kd.string 9 W base ok (.slice A q c) xs) (HB : Below base w0 W) (hl : xs.length ≤ 1000000) :
    Calls Try.prog 23 #[.slice A q c] W fun e w' => e = .returned (.tuple #[]) ∧ Below base w0 w' ∧ Kd.C Kd.string w' A q (sortB xs) := by
  subst hq
  exact sort_calls A c xs W HR HB hl
theorem sort_callsI_q {w0 : World} {base : Nat} {ok : Nat → Prop} (A : Option Addr) (c : Nat) (xs : List Int) (W : World) (q : Nat) (hq : xs.length = q) (HR : Kd.R (Kd.int .i64) 3 W base ok (.slice A q c) xs) (HB : Below base w0 W) (hl : xs.length ≤ 1000000) :
    Calls Try.prog 24 #[.slice A q c] W fun e w' => e = .returned (.tuple #[]) ∧ Below base w0 w' ∧ Kd.C (Kd.int .i64) w' A q (sortI xs) := by
  subst hq
  exact sort_callsI A c xs W HR HB hl

set_option maxHeartbeats 1000000 in
set_option maxRecDepth 100000 in
theorem of_any (g m n : Nat) (L : List Pr) (c : Int) (w : World) (H : SubsAt w g m n L) (hn : n ≤ 1000000) :
    Calls Try.prog 11 #[.pointer (some ⟨g, 0, none⟩), .int .i64 c] w fun e w' => ∃ A k, e = .returned (.slice A (ofP c L).length k) ∧ (ofP c L).length ≤ k ∧ Aside0 (Kd.C Kd.string w' A (ofP c L).length (ofP c L)) ∧ Aside0 (Below w.heap.size w w') := by
  have hlt := H.lt
  obtain ⟨h1, M, h2, h3, h4, h5, h6⟩ := H
  have c0 : w.cell? ⟨g, 0, none⟩ = some (.map (some m)) := by simp [World.cell?, h1]
  have H1 := Aside0.mk h1
  have H2 := Aside0.mk h2
  have H3 := Aside0.mk h3
  have H4 := Aside0.mk h4
  have H5 := Aside0.mk h5
  clear h1 h2 h3 h4 h5
  go_enter Try.func11, Try.ntmps11
  go_wp2_with (first
    | (at_range; refine op_range _ rfl _ 48 rfl 52 4 lawP Try.underlying48 m n M rfl H2.out ?_; intro w0 left cnt hrg hall hcn hg0 hs0))
  go_frame
  go_loopw [5] (fun v5 wr => Aside0 (ColRel Kd.string 9 (·.2) (fun q => decide (q.1 = c)) m n M L w wr v5)) (fun _ wr => wr.rangeLeft m w.heap.size)
  case atStart =>
    exact ⟨left, cnt, [], hrg, Kd.R_nil _ _ _ _ _, coll_start (fun p hp => hall _ (by rw [H3.out.2 p hp]; rfl)), ⟨hg0.os, hg0.tape, hg0.output, by omega, fun k hk => hg0.block k hk (by simp)⟩, by simpa using hcn⟩
  case round =>
    clear hrg hall hcn hg0 hs0
    obtain ⟨left, cnt, ps, hrg, hR, hC, hB, hl⟩ := hrel.out
    have HRG := Aside0.mk hrg
    have HR := Aside0.mk hR
    have HC := Aside0.mk hC
    have HB := Aside0.mk hB
    clear hrg hR hC hB hrel
    go_wp2_with (first
      | (at_next; refine op_next (α := PrS) (β := OneS) _ rfl _ rfl 52 lawP mkP (fun _ => .bool true) m w.heap.size n M left cnt ?_ ?_ rfl HRG.out ?_ ?_))
    · intro key kl hk
      obtain ⟨x, rfl, _⟩ := keyP_inv hk
      exact ⟨⟨x.1, x.2⟩, rfl⟩
    · exact fun v kl hM => ⟨⟨0⟩, (H3.out.1 kl v hM).1⟩
    · intro hc0 hl0
      have HP := Aside0.mk (coll_end H4.out HC.out hl0)
      obtain ⟨A, k, e5⟩ := Kd.R_slice HR.out
      have hlen : (ps.map (·.2)).length = (ofP c L).length := by rw [List.length_map, HP.out.length_eq]; simp [ofP]
      rw [hlen] at e5
      subst e5
      have HLN := Aside0.mk hlen
      have hk := (Kd.R_reads' HR.out).2.1
      have hps : ps.length ≤ 1000000 := by omega
      clear hlen hc0 hl0
      obtain ⟨q, hq⟩ : ∃ q, (ofP c L).length = q := ⟨_, rfl⟩
      rw [hq] at HLN HR hk ⊢
      have HQ0 := Aside0.mk hq
      clear hq
      go_wp2_with fail
      refine (sort_calls_q A k (ps.map (·.2)) wr q HLN.out HR.out HB.out (by simpa using hps)).mono ?_
      rintro e w2 ⟨rfl, hb2, hC2⟩
      rw [sortB_eq (HP.out.map _) (of_srt H4.out c)] at hC2
      go_wp2
      go_ret
      have hq := HQ0.out
      subst hq
      exact ⟨A, k, rfl, hk, ⟨hC2⟩, ⟨hb2⟩⟩
    · intro x v kl w1 cnt1 hkey hlk hMk hrg1 hlt1 hg1 hs1 hen
      obtain ⟨a, t⟩ := x
      obtain ⟨hxL, rfl⟩ := rel_mem (x := (a, t)) H3.out H5.out hkey hMk
      have HR1 := Aside0.mk (R_next HR.out HRG.out hg1)
      have HRG1 := Aside0.mk hrg1
      have HB1 := Aside0.mk (pw_below_grown HB.out (some w.heap.size) HB.out.size hg1 (fun k e => by cases e; exact Nat.le_refl _))
      have HST := Aside0.mk (coll_step HC.out H5.out hxL hlk)
      have HLT := Aside0.mk hlt1
      simp only [mkP] at hen ⊢
      clear hkey hlk hMk hrg1 hlt1 hg1 hs1
      obtain ⟨A, k, e5⟩ := Kd.R_slice HR1.out
      obtain ⟨xs, hxs⟩ : ∃ xs : List ByteArray, ps.map (·.2) = xs := ⟨_, rfl⟩
      have HXN := Aside0.mk (show (xs.length + 1) * 16 ≤ 140737488355328 by rw [← hxs, List.length_map]; omega)
      rw [hxs] at e5 HR1
      obtain ⟨q, hq⟩ : ∃ q, xs.length = q := ⟨_, rfl⟩
      rw [hq] at e5
      subst e5
      have HXS := Aside0.mk hxs
      clear hxs
      have HQ := Aside0.mk hq
      clear hq
      obtain ⟨w2, hw2⟩ : ∃ w2, w1.alloc (.cells #[.int .i64 a, .string t] 52) = w2 := ⟨_, rfl⟩
      have hb2 : w2.heap[w1.heap.size]? = some (.cells #[.int .i64 a, .string t] 52 (0, 0)) := by rw [← hw2]; have := heap_alloc_new w1 (.cells #[.int .i64 a, .string t] 52); simpa using this
      have d0 : w2.cell? ⟨w1.heap.size, 0, none⟩ = some (.int .i64 a) := by simp [World.cell?, hb2]
      have d1 : w2.cell? ⟨w1.heap.size, 1, none⟩ = some (.string t) := by simp [World.cell?, hb2]
      clear hb2
      have HA := Aside0.mk (show Below w1.heap.size w1 w2 by rw [← hw2]; exact below_alloc (Below.refl _ _) _)
      have HR2 := Aside0.mk (Kd.R_below HR1.out HA.out)
      have HB2 := Aside0.mk (below_then HB1.out HB1.out.size HA.out)
      have HRG2 := Aside0.mk (HRG1.out.same (HA.out.block m HRG1.out.map.lt) (HA.out.block _ HRG1.out.lt))
      by_cases hac : a = c
      · subst hac
        go_wp2_with (at_builtin; go_loud (refine Kd.R_append Kd.string (w0 := w) w.heap.size rfl (.tmp 20) (.tmp 23) 22 9 (.string ⟨#[]⟩) 16 rfl Try.underlying22 infoS rfl (by decide) (by decide) (.slice A q k) xs t [.string t] (fun _ => True) (fun _ => False) rfl rfl rfl (fun _ h => h.elim) (fun _ _ => trivial) HR2.out HB2.out HB2.out.size HXN.out ?_; intro v4 w4 ho hb4 hg4 hat; have HO4 := Aside0.mk ho; have HB4 := Aside0.mk hb4; have HG4 := Aside0.mk hg4; clear ho hb4 hg4 hat))
        have HRG4 := Aside0.mk (HRG2.out.same (HG4.out.block m HRG2.out.map.lt (row_ne HR2.out (MapV.noobj HRG2.out.map))) (HG4.out.block _ HRG2.out.lt (row_ne HR2.out (RangeV.noobj HRG2.out))))
        go_roundw
        case rel =>
          exact ⟨⟨_, cnt1, ps ++ [(a, t)], HRG4.out, by rw [List.map_append, HXS.out]; exact HO4.out, HST.out.1 (by simp), HB4.out, by have := HLT.out; simp; omega⟩⟩
        case measure =>
          have e1 := HRG4.out.left_eq
          have e2 := HRG.out.left_eq
          have := HLT.out
          rw [e2]
          first | (rw [e1]; exact this) | (simp only [] at e1 ⊢; omega)
      · go_wp2
        go_roundw
        case rel =>
          exact ⟨⟨_, cnt1, ps, HRG2.out, by rw [HXS.out]; exact HR2.out, HST.out.2 (by simpa using hac), HB2.out, by have := HLT.out; omega⟩⟩
        case measure =>
          have e1 := HRG2.out.left_eq
          have e2 := HRG.out.left_eq
          have := HLT.out
          rw [e2]
          first | (rw [e1]; exact this) | (simp only [] at e1 ⊢; omega)

set_option maxHeartbeats 1000000 in
set_option maxRecDepth 100000 in
theorem hear_any (g m n : Nat) (L : List Pr) (c : ByteArray) (w : World) (H : SubsAt w g m n L) (hn : n ≤ 1000000) :
    Calls Try.prog 15 #[.pointer (some ⟨g, 0, none⟩),   .string c] w fun e w' => ∃ A k, e = .returned (.slice A (hearP c L).length k) ∧ (hearP c L).length ≤ k ∧ Aside0 (Kd.C (Kd.int .i64) w' A (hearP c L).length (hearP c L)) ∧ Aside0 (Below w.heap.size w w') := by
  have hlt := H.lt
  obtain ⟨h1, M, h2, h3, h4, h5, h6⟩ := H
  have c0 : w.cell? ⟨g, 0, none⟩ = some (.map (some m)) := by simp [World.cell?, h1]
  have H1 := Aside0.mk h1
  have H2 := Aside0.mk h2
  have H3 := Aside0.mk h3
  have H4 := Aside0.mk h4
  have H5 := Aside0.mk h5
  clear h1 h2 h3 h4 h5
  go_enter Try.func15, Try.ntmps15
  go_wp2_with (first
    | (at_range; refine op_range _ rfl _ 48 rfl 52 4 lawP Try.underlying48 m n M rfl H2.out ?_; intro w0 left cnt hrg hall hcn hg0 hs0))
  go_frame
  go_loopw [5] (fun v5 wr => Aside0 (ColRel (Kd.int .i64) 3 (·.1) (fun q => decide (q.2 = c)) m n M L w wr v5)) (fun _ wr => wr.rangeLeft m w.heap.size)
  case atStart =>
    exact ⟨left, cnt, [], hrg, Kd.R_nil _ _ _ _ _, coll_start (fun p hp => hall _ (by rw [H3.out.2 p hp]; rfl)), ⟨hg0.os, hg0.tape, hg0.output, by omega, fun k hk => hg0.block k hk (by simp)⟩, by simpa using hcn⟩
  case round =>
    clear hrg hall hcn hg0 hs0
    obtain ⟨left, cnt, ps, hrg, hR, hC, hB, hl⟩ := hrel.out
    have HRG := Aside0.mk hrg
    have HR := Aside0.mk hR
    have HC := Aside0.mk hC
    have HB := Aside0.mk hB
    clear hrg hR hC hB hrel
    go_wp2_with (first
      | (at_next; refine op_next (α := PrS) (β := OneS) _ rfl _ rfl 52 lawP mkP (fun _ => .bool true) m w.heap.size n M left cnt ?_ ?_ rfl HRG.out ?_ ?_))
    · intro key kl hk
      obtain ⟨x, rfl, _⟩ := keyP_inv hk
      exact ⟨⟨x.1, x.2⟩, rfl⟩
    · exact fun v kl hM => ⟨⟨0⟩, (H3.out.1 kl v hM).1⟩
    · intro hc0 hl0
      have HP := Aside0.mk (coll_end H4.out HC.out hl0)
      obtain ⟨A, k, e5⟩ := Kd.R_slice HR.out
      have hlen : (ps.map (·.1)).length = (hearP c L).length := by rw [List.length_map, HP.out.length_eq]; simp [hearP]
      rw [hlen] at e5
      subst e5
      have HLN := Aside0.mk hlen
      have hk := (Kd.R_reads' HR.out).2.1
      have hps : ps.length ≤ 1000000 := by omega
      clear hlen hc0 hl0
      obtain ⟨q, hq⟩ : ∃ q, (hearP c L).length = q := ⟨_, rfl⟩
      rw [hq] at HLN HR hk ⊢
      have HQ0 := Aside0.mk hq
      clear hq
      go_wp2_with fail
      refine (sort_callsI_q A k (ps.map (·.1)) wr q HLN.out HR.out HB.out (by simpa using hps)).mono ?_
      rintro e w2 ⟨rfl, hb2, hC2⟩
      rw [sortI_eq (HP.out.map _) (hear_srt H4.out c)] at hC2
      go_wp2
      go_ret
      have hq := HQ0.out
      subst hq
      exact ⟨A, k, rfl, hk, ⟨hC2⟩, ⟨hb2⟩⟩
    · intro x v kl w1 cnt1 hkey hlk hMk hrg1 hlt1 hg1 hs1 hen
      obtain ⟨a, t⟩ := x
      obtain ⟨hxL, rfl⟩ := rel_mem (x := (a, t)) H3.out H5.out hkey hMk
      have HR1 := Aside0.mk (R_next HR.out HRG.out hg1)
      have HRG1 := Aside0.mk hrg1
      have HB1 := Aside0.mk (pw_below_grown HB.out (some w.heap.size) HB.out.size hg1 (fun k e => by cases e; exact Nat.le_refl _))
      have HST := Aside0.mk (coll_step HC.out H5.out hxL hlk)
      have HLT := Aside0.mk hlt1
      simp only [mkP] at hen ⊢
      clear hkey hlk hMk hrg1 hlt1 hg1 hs1
      obtain ⟨A, k, e5⟩ := Kd.R_slice HR1.out
      obtain ⟨xs, hxs⟩ : ∃ xs : List Int, ps.map (·.1) = xs := ⟨_, rfl⟩
      have HXN := Aside0.mk (show (xs.length + 1) * 8 ≤ 140737488355328 by rw [← hxs, List.length_map]; omega)
      rw [hxs] at e5 HR1
      obtain ⟨q, hq⟩ : ∃ q, xs.length = q := ⟨_, rfl⟩
      rw [hq] at e5
      subst e5
      have HXS := Aside0.mk hxs
      clear hxs
      have HQ := Aside0.mk hq
      clear hq
      obtain ⟨w2, hw2⟩ : ∃ w2, w1.alloc (.cells #[.int .i64 a, .string t] 52) = w2 := ⟨_, rfl⟩
      have hb2 : w2.heap[w1.heap.size]? = some (.cells #[.int .i64 a, .string t] 52 (0, 0)) := by rw [← hw2]; have := heap_alloc_new w1 (.cells #[.int .i64 a, .string t] 52); simpa using this
      have d0 : w2.cell? ⟨w1.heap.size, 0, none⟩ = some (.int .i64 a) := by simp [World.cell?, hb2]
      have d1 : w2.cell? ⟨w1.heap.size, 1, none⟩ = some (.string t) := by simp [World.cell?, hb2]
      clear hb2
      have HA := Aside0.mk (show Below w1.heap.size w1 w2 by rw [← hw2]; exact below_alloc (Below.refl _ _) _)
      have HR2 := Aside0.mk (Kd.R_below HR1.out HA.out)
      have HB2 := Aside0.mk (below_then HB1.out HB1.out.size HA.out)
      have HRG2 := Aside0.mk (HRG1.out.same (HA.out.block m HRG1.out.map.lt) (HA.out.block _ HRG1.out.lt))
      by_cases hac : t = c
      · subst hac
        go_wp2_with (at_builtin; go_loud (refine Kd.R_append (Kd.int .i64) (w0 := w) w.heap.size rfl (.tmp 20) (.tmp 23) 31 3 (.int .i64 0) 8 rfl Try.underlying31 infoI rfl (by decide) (by decide) (.slice A q k) xs a [.int .i64 a] (fun _ => True) (fun _ => False) rfl rfl rfl (fun _ h => h.elim) (fun _ _ => trivial) HR2.out HB2.out HB2.out.size HXN.out ?_; intro v4 w4 ho hb4 hg4 hat; have HO4 := Aside0.mk ho; have HB4 := Aside0.mk hb4; have HG4 := Aside0.mk hg4; clear ho hb4 hg4 hat))
        have HRG4 := Aside0.mk (HRG2.out.same (HG4.out.block m HRG2.out.map.lt (row_ne HR2.out (MapV.noobj HRG2.out.map))) (HG4.out.block _ HRG2.out.lt (row_ne HR2.out (RangeV.noobj HRG2.out))))
        go_roundw
        case rel =>
          exact ⟨⟨_, cnt1, ps ++ [(a, t)], HRG4.out, by rw [List.map_append, HXS.out]; exact HO4.out, HST.out.1 (by simp), HB4.out, by have := HLT.out; simp; omega⟩⟩
        case measure =>
          have e1 := HRG4.out.left_eq
          have e2 := HRG.out.left_eq
          have := HLT.out
          rw [e2]
          first | (rw [e1]; exact this) | (simp only [] at e1 ⊢; omega)
      · have hbe : (t.toList == c.toList) = false := by
          rw [beq_eq_false_iff_ne]
          intro e
          exact hac (ba_ext (by simpa [ByteArray.toList_eq] using e))
        go_wp2
        go_roundw
        case rel =>
          exact ⟨⟨_, cnt1, ps, HRG2.out, by rw [HXS.out]; exact HR2.out, HST.out.2 (by simpa using hac), HB2.out, by have := HLT.out; omega⟩⟩
        case measure =>
          have e1 := HRG2.out.left_eq
          have e2 := HRG.out.left_eq
          have := HLT.out
          rw [e2]
          first | (rw [e1]; exact this) | (simp only [] at e1 ⊢; omega)
end Go.Proofs.Ytjcmmlbonljcnaa.X
