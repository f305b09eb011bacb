/- The document's disk: walks of Rename, Read. -/
import Derived.Test.YtdjbapbfbgcfjaaRefC
set_option linter.unusedVariables false
set_option linter.unusedSimpArgs false
namespace Go.Proofs.Ytdjbapbfbgcfjaa
open Go.RowKit Go.Maps Go.ChangeMaps Go.MapKept Mv Go.Proofs.YtdjbapbfbgcfjaaW.PrintWords

set_option maxHeartbeats 1000000 in
theorem rren_in (r : Nat) (T : Nat → Prop) (fs : List Fl) (s t : ByteArray) (w : World) (H : RefIn w r T fs) (hn : fs.length < 1000000) :
    Calls Try.prog 14 #[.pointer (some ⟨r, 0, none⟩), .string s, .string t] w fun e w' => ∃ fs', Kp T w w' ∧ RefIn w' r (more T w w') fs' ∧
      ((∃ (i : Nat) (f : Fl), FirstAt fs s i f ∧ fs' = (fs.filter (fun f => f.nm ≠ s)).filter (fun f => f.nm ≠ t) ++ [{ f with nm := t }] ∧ e = .returned (.int .i64 0)) ∨ (NoneAt fs s ∧ fs' = fs ∧ e = .returned (.int .i64 2))) := by
  obtain ⟨⟨v, rs, h1⟩, h2⟩ := H
  have H1 := hide h1
  have L1 := hide h2
  clear h1 h2
  have hrl := hide H1.out.len
  obtain ⟨A1, c1, hv⟩ := H1.out.form
  subst hv
  obtain ⟨hc, hf⟩ := H1.out.cell0
  go_enter Try.func14, Try.ntmps14
  go_wp2_with fail
  refine (find_walk r T _ rs fs s _ H1.out hn).mono ?_
  rintro e w' ⟨rfl, ⟨i, f, rfl, hfi⟩ | ⟨rfl, hno⟩⟩
  · have HF := hide hfi
    have hi : i < fs.length := (List.getElem?_eq_some_iff.1 hfi.1).1
    obtain ⟨g, x, f', e1, hx, hf', hok⟩ := H1.out.row_at i hi
    subst e1
    obtain ⟨q0, q1, q2, q3⟩ := raw_at H1.out.row i x hx
    have HX := hide hx
    have hrl' := hrl.out
    have hi2 : i < rs.length := by omega
    have hff : f' = f := by
      have := hfi.1
      rw [hf'] at this
      injection this
    subst hff
    have HOK := hide hok
    clear hfi hx hf' hok hrl' q3
    go_wp2_with fail
    have KA := hide ((Kp.refl (fun _ => False) w').alloc (.cells #[.string x.nm, .slice x.A x.n x.c, .bool x.s] 63))
    have HA := hide (H1.out.kp KA.out fun _ _ h => h)
    have hcell : ∀ k u, [Value.string x.nm, .slice x.A x.n x.c, .bool x.s][k]? = some u → (w'.alloc (.cells #[.string x.nm, .slice x.A x.n x.c, .bool x.s] 63)).cell? ⟨w'.heap.size, k, none⟩ = some u := fun k u h => cell_lit w' _ _ k (by simpa using h)
    have hfrz : ∀ k, (w'.alloc (.cells #[.string x.nm, .slice x.A x.n x.c, .bool x.s] 63)).frozen? ⟨w'.heap.size, k, none⟩ = false := fun k => by
      have hh : (w'.alloc (.cells #[.string x.nm, .slice x.A x.n x.c, .bool x.s] 63)).heap[w'.heap.size]? = some (.cells #[.string x.nm, .slice x.A x.n x.c, .bool x.s] 63 (0, 0)) := heap_alloc_new w' _
      unfold World.frozen?
      rw [hh]
      simp
    have HC := hide hcell
    have HZ := hide hfrz
    have SA := hide (show (w'.alloc (.cells #[.string x.nm, .slice x.A x.n x.c, .bool x.s] 63)).heap.size = w'.heap.size + 1 by simp)
    clear hcell hfrz hc hf
    generalize w'.alloc (.cells #[.string x.nm, .slice x.A x.n x.c, .bool x.s] 63) = wA at KA HA HC HZ SA ⊢
    have hLA : ∀ k, T k → k < wA.heap.size := fun k h => by have := L1.out k h; have := SA.out; omega
    refine (drop_walk r T _ rs fs s _ HA.out hLA hn).mono ?_
    rintro e w1 ⟨rfl, hk1, v1, rs1, hr1, hv1⟩
    have K1 := hide hk1
    have R1 := hide hr1
    have hr : r < w'.heap.size := L1.out r H1.out.tr
    clear hk1 hr1
    go_wp2_with fail
    have hn1 : (fs.filter (fun f => f.nm ≠ s)).length < 1000000 := Nat.lt_of_le_of_lt (List.length_filter_le _ _) hn
    refine (drop_walk r _ v1 rs1 _ t _ R1.out (more_lt hLA K1.out.size) hn1).mono ?_
    rintro e w2 ⟨rfl, hk2, v2, rs2, hr2, hv2⟩
    have K2 := hide (K1.out.trans hk2)
    have hs12 := hide hk2.size
    have R2 := hide hr2
    have hln : rs2.length < 1000000 := by rw [hr2.len]; exact Nat.lt_of_le_of_lt (List.length_filter_le _ _) hn1
    have hfb : w'.heap.size ≠ r := by omega
    have hc0 : w2.cell? ⟨w'.heap.size, 0, none⟩ = some (.string x.nm) := K2.out.cell (HC.out 0 _ rfl) hfb
    have hc1 : w2.cell? ⟨w'.heap.size, 1, none⟩ = some (.slice x.A x.n x.c) := K2.out.cell (HC.out 1 _ rfl) hfb
    have hc2 : w2.cell? ⟨w'.heap.size, 2, none⟩ = some (.bool x.s) := K2.out.cell (HC.out 2 _ rfl) hfb
    have hz : ∀ k, w2.frozen? ⟨w'.heap.size, k, none⟩ = false := fun k => (World.frozen?_of_block (a := ⟨w'.heap.size, k, none⟩) (K2.out.block w'.heap.size (by have := SA.out; omega) hfb)).trans (HZ.out k)
    have hv12 := hide hv1
    have hv22 := hide hv2
    clear hk2 hr2 hv1 hv2
    obtain ⟨A2, cc2, hv⟩ := R2.out.form
    subst hv
    go_wp2_with fail
    have hT2 : ∀ k, more (more T wA w1) w1 w2 k → k ≠ w'.heap.size := fun k hk => by
      have := SA.out
      rcases hk with (hk | hk) | hk
      · have := L1.out k hk; omega
      · omega
      · have := K1.out.size; omega
    have K3 := hide (Kp.setCell (S := fun k => k = w'.heap.size) (Kp.refl _ w2) (a := ⟨w'.heap.size, 0, none⟩) (.inl rfl) (.string t))
    have R3 := hide (R2.out.kp K3.out hT2)
    have h2s : w2.heap.size ≤ (w2.setCell ⟨w'.heap.size, 0, none⟩ (.string t)).heap.size := by simp
    have ws2 : w'.heap.size < w2.heap.size := by have := SA.out; have := K2.out.size; omega
    have e0 : (w2.setCell ⟨w'.heap.size, 0, none⟩ (.string t)).cell? ⟨w'.heap.size, 0, none⟩ = some (.string t) := by go_simp
    have e1 : (w2.setCell ⟨w'.heap.size, 0, none⟩ (.string t)).cell? ⟨w'.heap.size, 1, none⟩ = some (.slice x.A x.n x.c) := by go_simp
    have e2 : (w2.setCell ⟨w'.heap.size, 0, none⟩ (.string t)).cell? ⟨w'.heap.size, 2, none⟩ = some (.bool x.s) := by go_simp
    have C3 := hide (show U8.C (w2.setCell ⟨w'.heap.size, 0, none⟩ (.string t)) x.A x.n f'.b from C_cells HOK.out.2.2.2.2.2.1 fun ad e a v hab hcell => by
      have h3 := HOK.out.2.2.2.2.2.2 ad e
      refine K3.out.cell (K2.out.cell (KA.out.cell hcell (fun h => h)) (by rw [hab]; exact h3.2.1)) (by rw [hab]; omega))
    clear hc0 hc1 hc2 hz
    generalize w2.setCell ⟨w'.heap.size, 0, none⟩ (.string t) = w3 at K3 R3 h2s e0 e1 e2 C3 ⊢
    obtain ⟨hcr, hfr⟩ := R3.out.cell0
    have hr3 : r < w3.heap.size := R3.out.lt
    have HR3 := hide (show kRaw.R 63 w3.drew 0 (fun k => some k = (Value.slice A2 rs2.length cc2).ownBlock ∨ w3.heap.size ≤ k) (.slice A2 rs2.length cc2) rs2 from Kd.R_mono (Kd.R_drew R3.out.row) fun k h => .inl h)
    have hca : ∀ o, (w3.alloc o).cell? ⟨r, 0, none⟩ = _ := fun o => (World.cell?_alloc_lt w3 o ⟨r, 0, none⟩ hr3).trans hcr
    go_region_law (first
      | (refine Kd.R_append_step kRaw (W := w3.drew) (w0 := w3.drew) 0 (by rfl) _ _ 27 63 (.agg #[.string ⟨#[]⟩, .slice none 0 0, .bool false]) 48 (by rfl) Try.underlying27 infoF rfl (show 0 < 3 by decide) (by decide) (.slice A2 rs2.length cc2) rs2 ⟨t, x.A, x.n, x.c, x.s⟩ [.string t, .slice x.A x.n x.c, .bool x.s] (fun k => some k = (Value.slice A2 rs2.length cc2).ownBlock ∨ w3.heap.size ≤ k) (fun _ => False) (by rfl) (by rfl) (raw_mkM _ _ _ ⟨t, x.A, x.n, x.c, x.s⟩) (fun _ h => h.elim) (fun k hk => .inr hk) HR3.out (Below.refl 0 _) (Nat.zero_le _) (by omega) ?_
         intro v4 w4 hown4 hb4 hg4 hat4
         obtain ⟨A4, c4, rfl⟩ := Kd.R_slice hown4
         have HO4 := hide hown4
         have HG4 := hide hg4
         have HAT4 := hide hat4
         clear hown4 hb4 hg4 hat4
         have hq4 : w4.heap[r]? = w3.heap[r]? := HG4.out.block r hr3 (fun e => (R3.out.own r e.symm).2.1 rfl)
         have hc4 : w4.cell? ⟨r, 0, none⟩ = _ := (World.cell?_of_block (a := ⟨r, 0, none⟩) hq4).trans hcr
         have hf4 : w4.frozen? ⟨r, 0, none⟩ = false := (World.frozen?_of_block (a := ⟨r, 0, none⟩) hq4).trans hfr))
    all_goals go_wp2
    all_goals go_ret
    all_goals have hfin := push_fin R3.out (fun k hk => by have := more_lt (more_lt hLA K1.out.size) (show w1.heap.size ≤ w2.heap.size by have := hs12.out; omega) k hk; omega) (w2 := w3.drew) ⟨rfl, rfl, rfl, Nat.le_refl _, fun _ _ => rfl⟩ ⟨t, x.A, x.n, x.c, x.s⟩ ⟨t, f'.b, f'.s⟩ ⟨rfl, HOK.out.2.1, HOK.out.2.2.1, HOK.out.2.2.2.1, HOK.out.2.2.2.2.1⟩ (Kd.C_drew C3.out) (fun ad e => by
        have h3 := HOK.out.2.2.2.2.2.2 ad e
        refine ⟨.inl (.inl (.inl h3.1)), by show ad.block < w3.heap.size; omega, h3.2.1, fun e2 => ?_⟩
        have h4 := hv22.out ad.block e2.symm
        have h5 := K1.out.size
        have h6 := SA.out
        omega) HO4.out HG4.out HAT4.out
    all_goals simp only [List.length_append, List.length_singleton] at hfin
    all_goals obtain ⟨hfk, hfr2⟩ := hfin
    all_goals refine ⟨_, ((((KA.out.mono (T := T) fun i h => h.elim).trans' K2.out fun i e => .inl (by rw [e]; exact H1.out.tr)).trans' K3.out fun i e => .inr (by omega)).trans' hfk fun i h => ?_), hfr2.mono (fun k hk => ?_) (more_lt L1.out ?_), .inl ⟨i, f', HF.out, rfl, rfl⟩⟩
    all_goals first
      | (have h6 := SA.out
         have h5 := K1.out.size
         rcases h with (h | h) | h
         · exact .inl h
         · exact .inr (by omega)
         · exact .inr (by omega))
      | (have h6 := SA.out
         have h5 := K1.out.size
         have h4 := hfr2.2 k hk
         rcases hk with ((h | h) | h) | h
         · exact .inl h
         · exact .inr ⟨by omega, h4⟩
         · exact .inr ⟨by omega, h4⟩
         · exact .inr ⟨by omega, h4⟩)
      | (have h4 := hfk.size
         omega)
  · have HN := hide hno
    clear hno
    go_wp2
    go_ret
    exact ⟨fs, Kp.refl _ _, RefIn.mono ⟨⟨_, rs, H1.out⟩, L1.out⟩ (fun _ h => .inl h) (more_lt L1.out (Nat.le_refl _)), .inr ⟨HN.out, rfl, rfl⟩⟩

set_option maxHeartbeats 1000000 in
theorem rread_in (r : Nat) (T : Nat → Prop) (fs : List Fl) (s : ByteArray) (w : World) (H : RefIn w r T fs) (hn : fs.length < 1000000) :
    Calls Try.prog 16 #[.pointer (some ⟨r, 0, none⟩), .string s] w fun e w' => Below w.heap.size w w' ∧
      ((∃ (i : Nat) (f : Fl) (A : Option Addr) (c : Nat), FirstAt fs s i f ∧ e = .returned (.tuple #[.slice A f.b.length c, .bool true]) ∧ U8.C w' A f.b.length f.b) ∨ (NoneAt fs s ∧ e = .returned (.tuple #[.slice none 0 0, .bool false]))) := by
  obtain ⟨⟨v, rs, h1⟩, h2⟩ := H
  have H1 := hide h1
  have L1 := hide h2
  clear h1 h2
  have hrl := hide H1.out.len
  obtain ⟨A1, c1, hv⟩ := H1.out.form
  subst hv
  obtain ⟨hc, hf⟩ := H1.out.cell0
  go_enter Try.func16, Try.ntmps16
  go_wp2_with fail
  refine (find_walk r T _ rs fs s _ H1.out hn).mono ?_
  rintro e w' ⟨rfl, ⟨i, f, rfl, hfi⟩ | ⟨rfl, hno⟩⟩
  · have HF := hide hfi
    have hi : i < fs.length := (List.getElem?_eq_some_iff.1 hfi.1).1
    obtain ⟨g, x, f', e1, hx, hf', hok⟩ := H1.out.row_at i hi
    subst e1
    obtain ⟨q0, q1, q2, q3⟩ := raw_at H1.out.row i x hx
    have HX := hide hx
    have hrl' := hrl.out
    have hi2 : i < rs.length := by omega
    have hff : f' = f := by
      have := hfi.1
      rw [hf'] at this
      injection this
    subst hff
    have HOK := hide hok
    have hr : r < w'.heap.size := L1.out r H1.out.tr
    have hg : g < w'.heap.size := (H1.out.own g rfl).2.2
    have hca : ∀ o, (w'.alloc o).cell? ⟨r, 0, none⟩ = _ := fun o => (World.cell?_alloc_lt w' o ⟨r, 0, none⟩ hr).trans hc
    have q1a : ∀ o, (w'.alloc o).cell? ⟨g, i * 3 + 1, none⟩ = _ := fun o => (World.cell?_alloc_lt w' o ⟨g, i * 3 + 1, none⟩ hg).trans q1
    clear hfi hx hf' hok hrl' q3 q0 q2
    have hxn := HOK.out.2.2.1
    have HA := hide (show U8.C (w'.alloc (.cells #[] 5)) x.A f'.b.length f'.b by rw [← hxn]; exact Kd.C_below HOK.out.2.2.2.2.2.1 ((Below.refl _ _).alloc (Nat.le_refl _) (.cells #[] 5)))
    have HO := hide (own_empty w' 5 .u8 (fun k => w'.heap.size ≤ k) (Nat.le_refl _))
    rw [hxn] at q1a q1
    clear hxn
    have hbl := HOK.out.2.2.2.2.1
    go_wp2_with (first | (at_builtin; refine Kd.R_append_rows U8 (Rr := U8.K (w'.alloc (.cells #[] 5))) (w0 := w') w'.heap.size rfl _ _ 30 5 (.int .u8 0) 1 rfl Try.underlying30 info5 rfl (by decide) (by decide) _ [] f'.b x.A f'.b.length x.c (fun k => w'.heap.size ≤ k) (fun _ => False) rfl rfl HO.out HA.out (fun _ _ h => h) (fun _ h => h.elim) ?_ ((Below.refl _ _).alloc (Nat.le_refl _) _) (by simp) (by simp; omega) ?_))
    · intro k hk
      simp at hk
      omega
    intro v1 w3 hown hb hg hat
    obtain ⟨A3, c3, rfl, hc3, hr3⟩ := Kd.R_reads hown
    have R3 := hide hr3
    have HB3 := hide hb
    clear hown hb hg hat hr3
    go_wp2
    go_ret2
    exact ⟨HB3.out, .inl ⟨i, f', A3, c3, HF.out, rfl, R3.out⟩⟩
  · have HN := hide hno
    clear hno
    go_wp2
    go_ret2
    exact ⟨Below.refl _ _, .inr ⟨HN.out, rfl⟩⟩
end Go.Proofs.Ytdjbapbfbgcfjaa
