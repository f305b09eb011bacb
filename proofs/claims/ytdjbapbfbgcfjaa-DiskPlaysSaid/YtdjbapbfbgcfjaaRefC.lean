/- The document's disk: walks of Write, Sync, Rename, Read. -/
import Derived.Test.YtdjbapbfbgcfjaaRefB
import Derived.Deep.RegionLaw
set_option linter.unusedVariables false
set_option linter.unusedSimpArgs false
namespace Go.Proofs.Ytdjbapbfbgcfjaa
open Go.RowKit Go.Maps Go.ChangeMaps Go.MapKept Mv Go.Proofs.YtdjbapbfbgcfjaaW.PrintWords

/-- The document's disk, wherever its row is. -/
def RefIn (w : World) (r : Nat) (T : Nat → Prop) (fs : List Fl) : Prop := (∃ v rs, RefAt w r T v rs fs) ∧ ∀ k, T k → k < w.heap.size
theorem RefIn.kp {w w' : World} {r : Nat} {S T : Nat → Prop} {fs : List Fl} (h : RefIn w r T fs) (hk : Kp S w w') (hd : ∀ k, T k → ¬ S k) : RefIn w' r T fs := by
  obtain ⟨⟨v, rs, h1⟩, h2⟩ := h
  exact ⟨⟨v, rs, h1.kp hk hd⟩, fun k hk' => by have := h2 k hk'; have := hk.size; omega⟩

set_option maxHeartbeats 1000000 in
theorem drop_in (r : Nat) (T : Nat → Prop) (fs : List Fl) (s : ByteArray) (w : World) (H : RefIn w r T fs) (hn : fs.length < 1000000) :
    Calls Try.prog 26 #[.pointer (some ⟨r, 0, none⟩), .string s] w fun e w' => e = .returned (.tuple #[]) ∧ Kp T w w' ∧ RefIn w' r (more T w w') (fs.filter (fun f => f.nm ≠ s)) := by
  obtain ⟨⟨v, rs, h1⟩, h2⟩ := H
  exact (drop_walk r T v rs fs s w h1 h2 hn).mono fun e w' ⟨a, b, v', rs', c, _⟩ => ⟨a, b.mono (fun i e => by rw [e]; exact h1.tr), ⟨v', rs', c⟩, more_lt h2 b.size⟩

theorem push_fin {w1 w2 w3 : World} {r : Nat} {T ok : Nat → Prop} {v1 v3 : Value} {rs : List Raw} {fs : List Fl} (H1 : RefAt w1 r T v1 rs fs) (hT : ∀ k, T k → k < w1.heap.size) (HB2 : Below w1.heap.size w1 w2) (x : Raw) (f : Fl)
    (hx : x.nm = f.nm ∧ x.s = f.s ∧ x.n = f.b.length ∧ x.n ≤ x.c ∧ f.b.length ≤ 65536) (hC : U8.C w2 x.A x.n f.b) (hxT : ∀ ad, x.A = some ad → (T ad.block ∨ w1.heap.size ≤ ad.block) ∧ ad.block < w2.heap.size ∧ ad.block ≠ r ∧ some ad.block ≠ v1.ownBlock)
    (HO3 : kRaw.R 63 w3 0 ok v3 (rs ++ [x])) (HG3 : w2.grownBy w3 v1.ownBlock) (HAT3 : v3.ownBlock = v1.ownBlock ∨ ∃ b, v3.ownBlock = some b ∧ w2.heap.size ≤ b) :
    Kp T w1 (w3.setCell ⟨r, 0, none⟩ v3) ∧ RefIn (w3.setCell ⟨r, 0, none⟩ v3) r (more T w1 (w3.setCell ⟨r, 0, none⟩ v3)) (fs ++ [f]) := by
  have hr := H1.lt
  have hs2 := HB2.size
  have hs3 := HG3.size
  have hsz : (w3.setCell ⟨r, 0, none⟩ v3).heap.size = w3.heap.size := by simp
  have hrv : ∀ k, v1.ownBlock = some k → k ≠ r := fun k e => (H1.own k e).2.1
  have hq3 : w3.heap[r]? = w1.heap[r]? := (HG3.block r (by omega) (fun e => hrv r e.symm rfl)).trans (HB2.block r hr)
  have hk : Kp T w1 (w3.setCell ⟨r, 0, none⟩ v3) := ((Kp.of_below HB2).trans' (Kp.of_grown (S := fun k => some k = v1.ownBlock) HG3 fun k e => .inl e.symm) fun i e => .inl (H1.own i e.symm).1).setCell (.inl H1.tr) _
  have hv3 : ∀ k, v3.ownBlock = some k → k ≠ r ∧ k < w3.heap.size ∧ (T k ∨ w1.heap.size ≤ k) := fun k e => by
    have hb := (Kd.R_bound HO3).1 k e
    rcases HAT3 with h | ⟨b, h, hle⟩
    · rw [h] at e
      have := H1.own k e
      exact ⟨this.2.1, hb.2.2.1, .inl this.1⟩
    · rw [h] at e
      injection e with e
      exact ⟨by omega, hb.2.2.1, .inr (by omega)⟩
  have hne : ∀ k, k < w2.heap.size → some k ≠ v1.ownBlock → some k ≠ v3.ownBlock := fun k hk h e => by
    rcases HAT3 with h2 | ⟨b, h2, hle⟩
    · exact h (e.trans h2)
    · rw [h2] at e
      injection e with e
      omega
  have hblk : ∀ k, k < w2.heap.size → k ≠ r → some k ≠ v1.ownBlock → (w3.setCell ⟨r, 0, none⟩ v3).heap[k]? = w2.heap[k]? := fun k hk h1 h2 => (Below.heap_setCell w3 ⟨r, 0, none⟩ v3 k h1).trans (HG3.block k hk h2)
  refine ⟨hk, ⟨v3, rs ++ [x], ⟨?_, .inl H1.tr, ?_, ?_, ?_, ?_⟩⟩, fun k h => ?_⟩
  · have := blk_set (w := w3) (g := r) (t := 29) (cs := #[v1]) (hq3.trans H1.cell) 0 v3
    exact this
  · exact Kd.R_far (Kd.R_tight rfl HO3) (p := ⟨r, 0, none⟩) (fun k e => (hv3 k e.symm).1) v3
  · intro k e
    have := hv3 k e
    refine ⟨?_, this.1, by omega⟩
    rcases this.2.2 with h | h
    · exact .inl h
    · exact .inr ⟨h, by omega⟩
  · simp [H1.len]
  · intro i y g hy hg
    by_cases hi : i < rs.length
    · rw [List.getElem?_append_left hi] at hy
      rw [List.getElem?_append_left (by rw [← H1.len]; exact hi)] at hg
      have hok := H1.files i y g hy hg
      refine ⟨hok.1, hok.2.1, hok.2.2.1, hok.2.2.2.1, hok.2.2.2.2.1, C_cells hok.2.2.2.2.2.1 (fun ad e a v hab hcell => cell_block ?_ hcell), fun ad e => ?_⟩
      · have h3 := hok.2.2.2.2.2.2 ad e
        rw [hab, hblk _ (by omega) h3.2.1 h3.2.2.1, HB2.block _ h3.2.2.2]
      · have h3 := hok.2.2.2.2.2.2 ad e
        exact ⟨.inl h3.1, h3.2.1, hne _ (by omega) h3.2.2.1, by omega⟩
    · have hi' : i = rs.length := by
        have := (List.getElem?_eq_some_iff.1 hy).1
        simp at this
        omega
      subst hi'
      rw [List.getElem?_append_right (Nat.le_refl _)] at hy
      rw [List.getElem?_append_right (by rw [H1.len]; exact Nat.le_refl _), H1.len] at hg
      simp at hy hg
      subst hy hg
      refine ⟨hx.1, hx.2.1, hx.2.2.1, hx.2.2.2.1, hx.2.2.2.2, C_cells hC (fun ad e a v hab hcell => cell_block ?_ hcell), fun ad e => ?_⟩
      · have h3 := hxT ad e
        rw [hab, hblk _ h3.2.1 h3.2.2.1 h3.2.2.2]
      · have h3 := hxT ad e
        refine ⟨?_, h3.2.2.1, hne _ h3.2.1 h3.2.2.2, by omega⟩
        rcases h3.1 with h | h
        · exact .inl h
        · exact .inr ⟨h, by omega⟩
  · rcases h with h | h
    · have := hT k h; omega
    · exact h.2

theorem more_more {S : Nat → Prop} {w w1 w2 : World} (h : w.heap.size ≤ w1.heap.size) (h2 : w1.heap.size ≤ w2.heap.size) : ∀ k, more (more S w w1) w1 w2 k → more S w w2 k := fun k hk => by
  rcases hk with (hk | hk) | hk
  · exact .inl hk
  · exact .inr ⟨hk.1, by omega⟩
  · exact .inr ⟨by omega, hk.2⟩
theorem RefIn.mono {w : World} {r : Nat} {T T' : Nat → Prop} {fs : List Fl} (h : RefIn w r T fs) (hT : ∀ k, T k → T' k) (hT' : ∀ k, T' k → k < w.heap.size) : RefIn w r T' fs := by
  obtain ⟨⟨v, rs, h1⟩, _⟩ := h
  exact ⟨⟨v, rs, h1.keep (fun _ _ _ => rfl) (Nat.le_refl _) hT⟩, hT'⟩
/-- Two steps one behind the other. -/
theorem two_steps {w w1 w2 : World} {r : Nat} {T : Nat → Prop} {fs : List Fl} (hT : ∀ k, T k → k < w.heap.size) (hk : Kp T w w1) (hk2 : Kp (more T w w1) w1 w2) (h : RefIn w2 r (more (more T w w1) w1 w2) fs) : Kp T w w2 ∧ RefIn w2 r (more T w w2) fs :=
  ⟨hk.trans' hk2 fun i h => h.imp id (·.1), h.mono (more_more hk.size hk2.size) (more_lt hT (Nat.le_trans hk.size hk2.size))⟩

set_option maxHeartbeats 1000000 in
theorem rwrite_in (r : Nat) (T : Nat → Prop) (fs : List Fl) (s : ByteArray) (A : Option Addr) (b : List Int) (c : Nat) (w : World) (H : RefIn w r T fs) (hn : fs.length < 1000000) (h : ∀ w', Kp T w w' → U8.C w' A b.length b) (hb : b.length ≤ 65536) :
    Calls Try.prog 23 #[.pointer (some ⟨r, 0, none⟩), .string s, .slice A b.length c] w fun e w' => e = .returned (.int .i64 0) ∧ Kp T w w' ∧ RefIn w' r (more T w w') (fs.filter (fun f => f.nm ≠ s) ++ [⟨s, b, false⟩]) := by
  have HB := hide h
  have HI := hide H
  clear h H
  go_enter Try.func23, Try.ntmps23
  go_wp2_with fail
  refine (drop_in r T fs s _ HI.out hn).mono ?_
  rintro e w1 ⟨rfl, hk, h1⟩
  have K1 := hide hk
  have C1 := hide (HB.out w1 hk)
  obtain ⟨⟨v, rs, h1⟩, h2⟩ := h1
  have H1 := hide h1
  have L1 := hide h2
  clear hk h1 h2 HB
  have hln : rs.length < 1000000 := by have := H1.out.len; have := List.length_filter_le (fun f : Fl => decide (f.nm ≠ s)) fs; omega
  obtain ⟨A1, c1, hv⟩ := H1.out.form
  subst hv
  obtain ⟨hc, hf⟩ := H1.out.cell0
  have hlt := H1.out.lt
  go_wp2_with fail
  have HD := hide (Kd.C_drew (Kd.C_below C1.out ((Below.refl _ _).alloc (Nat.le_refl _) (.cells #[] 5))))
  have HO := hide (Kd.R_drew (own_empty w1 5 .u8 (fun k => w1.heap.size ≤ k) (Nat.le_refl _)))
  have HW := hide (show Below w1.heap.size w1 (w1.alloc (.cells #[] 5)).drew from ((Below.refl _ _).alloc (Nat.le_refl _) _).trans ⟨rfl, rfl, rfl, Nat.le_refl _, fun _ _ => rfl⟩)
  go_region_law (first
    | (refine Kd.R_append_rows_step U8 (Rr := U8.K (w1.alloc (.cells #[] 5)).drew) (w0 := w1) w1.heap.size (by rfl) _ _ 30 5 (.int .u8 0) 1 (by rfl) Try.underlying30 info5 rfl (by decide) (by decide) _ [] b A b.length c (fun k => w1.heap.size ≤ k) (fun _ => False) (by rfl) (by rfl) HO.out HD.out (fun _ _ h => h) (fun _ h => h.elim) (fun k hk => by simp at hk; exact Nat.le_of_succ_le hk) HW.out HW.out.size (by simp; omega) ?_
       intro v2 w2 hown hb2 hg2 hat2
       obtain ⟨A2, c2, rfl⟩ := Kd.R_slice hown
       have HO2 := hide hown
       have HB2 := hide hb2
       clear hown hb2 hg2 hat2
       have hc2 : w2.cell? ⟨r, 0, none⟩ = _ := pw_cell_below HB2.out hc
       have hc2a : ∀ o, (w2.alloc o).cell? ⟨r, 0, none⟩ = _ := fun o => (World.cell?_alloc_lt w2 o ⟨r, 0, none⟩ (by show r < w2.heap.size; have := HB2.out.size; omega)).trans hc2
       have HR2 := hide (show kRaw.R 63 w2 0 (fun k => some k = (Value.slice A1 rs.length c1).ownBlock ∨ w2.heap.size ≤ k) (.slice A1 rs.length c1) rs from Kd.R_mono (Kd.R_step H1.out.row fun k ho hlt => HB2.out.block k hlt) fun k h => .inl h))
    | (refine Kd.R_append_step kRaw (w0 := w2) 0 (by rfl) _ _ 27 63 (.agg #[.string ⟨#[]⟩, .slice none 0 0, .bool false]) 48 (by rfl) Try.underlying27 infoF rfl (show 0 < 3 by decide) (by decide) (.slice A1 rs.length c1) rs ⟨s, A2, b.length, c2, false⟩ [.string s, .slice A2 b.length c2, .bool false] (fun k => some k = (Value.slice A1 rs.length c1).ownBlock ∨ w2.heap.size ≤ k) (fun _ => False) (by rfl) (by rfl) (raw_mkM _ _ _ ⟨s, A2, b.length, c2, false⟩) (fun _ h => h.elim) (fun k hk => .inr hk) HR2.out (Below.refl 0 w2) (Nat.zero_le _) (by omega) ?_
       intro v3 w3 hown3 hb3 hg3 hat3
       obtain ⟨A3, c3, rfl⟩ := Kd.R_slice hown3
       have HO3 := hide hown3
       have HG3 := hide hg3
       have HAT3 := hide hat3
       clear hown3 hb3 hg3 hat3
       have hq3 : w3.heap[r]? = w2.heap[r]? := HG3.out.block r (by have := HB2.out.size; omega) (fun e => (H1.out.own r e.symm).2.1 rfl)
       have hc3 : w3.cell? ⟨r, 0, none⟩ = _ := (World.cell?_of_block (a := ⟨r, 0, none⟩) hq3).trans hc2
       have hf3 : w3.frozen? ⟨r, 0, none⟩ = false := (World.frozen?_of_block (a := ⟨r, 0, none⟩) hq3).trans ((World.frozen?_of_block (a := ⟨r, 0, none⟩) (HB2.out.block r hlt)).trans hf)))
  all_goals go_wp2
  all_goals go_ret
  all_goals refine ⟨rfl, two_steps HI.out.2 K1.out ?_ ?_⟩
  all_goals have hfin := push_fin H1.out L1.out HB2.out ⟨s, A2, b.length, c2, false⟩ ⟨s, b, false⟩ ⟨rfl, rfl, rfl, (Kd.R_reads' HO2.out).2.1, hb⟩ (Kd.R_reads' HO2.out).2.2 (fun ad e => by
      have h1 : w1.heap.size ≤ ad.block ∧ ad.block < w2.heap.size := by
        have := (Kd.R_bound HO2.out).1 ad.block (by rw [show A2 = some ad from e]; rfl)
        exact ⟨this.1, this.2.2.1⟩
      refine ⟨.inr h1.1, h1.2, by omega, fun e2 => ?_⟩
      have := (H1.out.own ad.block e2.symm).2.2
      omega) HO3.out HG3.out HAT3.out
  all_goals simp only [List.length_append, List.length_singleton] at hfin
  all_goals first | exact hfin.1 | exact hfin.2

theorem elem_fin {w : World} {r g n c : Nat} {T : Nat → Prop} {rs : List Raw} {fs : List Fl} (H1 : RefAt w r T (.slice (some ⟨g, 0, none⟩) n c) rs fs) (i : Nat) (x y : Raw) (f' : Fl) (hx : rs[i]? = some x) (j : Nat) (u : Value) (hj : j < 3)
    (hy : [Value.string y.nm, .slice y.A y.n y.c, .bool y.s] = [Value.string x.nm, .slice x.A x.n x.c, .bool x.s].set j u) (hok : RawOk w T r (.slice (some ⟨g, 0, none⟩) n c) y f') :
    Kp T w (w.setCell ⟨g, i * 3 + j, none⟩ u) ∧ RefAt (w.setCell ⟨g, i * 3 + j, none⟩ u) r T (.slice (some ⟨g, 0, none⟩) n c) (rs.set i y) (fs.set i f') := by
  have hg := H1.own g rfl
  have hst : ∀ z f, RawOk w T r (.slice (some ⟨g, 0, none⟩) n c) z f → RawOk (w.setCell ⟨g, i * 3 + j, none⟩ u) T r (.slice (some ⟨g, 0, none⟩) n c) z f := fun z f h =>
    h.step (fun ad e => Below.heap_setCell w ⟨g, i * 3 + j, none⟩ u ad.block (fun e2 => (h.2.2.2.2.2.2 ad e).2.2.1 (by rw [show ad.block = g from e2]; rfl))) (by simp) fun _ h => h
  refine ⟨(Kp.refl T w).setCell (.inl hg.1) u, (Below.heap_setCell w ⟨g, i * 3 + j, none⟩ u r (fun e => hg.2.1 e.symm)).trans H1.cell, H1.tr, raw_put H1.row i x y hx j u hj hy, fun k e => ?_, by simp [H1.len], fun k z f hz hf => ?_⟩
  · have := H1.own k e
    exact ⟨this.1, this.2.1, by simp; exact this.2.2⟩
  · by_cases hk : k = i
    · subst hk
      have hk2 := (List.getElem?_eq_some_iff.1 hx).1
      rw [List.getElem?_set_self hk2] at hz
      rw [List.getElem?_set_self (by rw [← H1.len]; exact hk2)] at hf
      injection hz with hz
      injection hf with hf
      subst hz hf
      exact hst _ _ hok
    · rw [List.getElem?_set_ne (fun e => hk e.symm)] at hz hf
      exact hst _ _ (H1.files k z f hz hf)

set_option maxHeartbeats 1000000 in
theorem rsync_in (r : Nat) (T : Nat → Prop) (fs : List Fl) (s : ByteArray) (w : World) (H : RefIn w r T fs) (hn : fs.length < 1000000) :
    Calls Try.prog 12 #[.pointer (some ⟨r, 0, none⟩), .string s] w fun e w' => ∃ fs', Kp T w w' ∧ RefIn w' r T fs' ∧
      ((∃ (i : Nat) (f : Fl), FirstAt fs s i f ∧ fs' = fs.set i { f with s := true } ∧ e = .returned (.int .i64 0)) ∨ (NoneAt fs s ∧ fs' = fs ∧ e = .returned (.int .i64 2))) := by
  obtain ⟨⟨v, rs, h1⟩, h2⟩ := H
  have H1 := hide h1
  have L1 := hide h2
  clear h1 h2
  have hrl := hide H1.out.len
  obtain ⟨A1, c1, hv⟩ := H1.out.form
  subst hv
  obtain ⟨hc, hf⟩ := H1.out.cell0
  go_enter Try.func12, Try.ntmps12
  go_wp2_with fail
  refine (find_walk r T _ rs fs s _ H1.out hn).mono ?_
  rintro e w' ⟨rfl, ⟨i, f, rfl, hfi⟩ | ⟨rfl, hno⟩⟩
  · have HF := hide hfi
    have hi : i < fs.length := (List.getElem?_eq_some_iff.1 hfi.1).1
    obtain ⟨g, x, f', e1, hx, hf', hok⟩ := H1.out.row_at i hi
    subst e1
    obtain ⟨q0, q1, q2, q3⟩ := raw_at H1.out.row i x hx
    have HX := hide hx
    have hrl' := hrl.out
    have hi2 : i < rs.length := by omega
    have hff : f' = f := by
      have := hfi.1
      rw [hf'] at this
      injection this
    subst hff
    have HOK := hide hok
    clear hfi hx hf' hok q0 q1 hrl'
    go_wp2
    go_ret
    have hfin := elem_fin H1.out i x { x with s := true } { f' with s := true } HX.out 2 (.bool true) (by omega) rfl ⟨HOK.out.1, rfl, HOK.out.2.2⟩
    exact ⟨_, hfin.1, ⟨⟨_, _, hfin.2⟩, fun k hk => by have := L1.out k hk; simp; omega⟩, .inl ⟨i, f', HF.out, rfl, rfl⟩⟩
  · have HN := hide hno
    clear hno
    go_wp2
    go_ret
    exact ⟨fs, Kp.refl _ _, ⟨⟨_, rs, H1.out⟩, L1.out⟩, .inr ⟨HN.out, rfl, rfl⟩⟩
end Go.Proofs.Ytdjbapbfbgcfjaa
