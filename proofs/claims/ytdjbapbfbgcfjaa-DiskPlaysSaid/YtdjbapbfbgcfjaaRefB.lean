/- The document's disk: walks of find and drop. -/
import Derived.Test.YtdjbapbfbgcfjaaRefA
import Derived.Lib.SlicesS
set_option linter.unusedVariables false
set_option linter.unusedSimpArgs false
namespace Go.Proofs.Ytdjbapbfbgcfjaa
open Go.RowKit Go.Maps Go.ChangeMaps Go.MapKept Mv Go.Proofs.YtdjbapbfbgcfjaaW.PrintWords

/-- The place of the first file of a name. -/
def FirstAt (fs : List Fl) (s : ByteArray) (i : Nat) (f : Fl) : Prop := fs[i]? = some f ∧ f.nm = s ∧ ∀ (j : Nat) g, j < i → fs[j]? = some g → g.nm ≠ s
def NoneAt (fs : List Fl) (s : ByteArray) : Prop := ∀ (j : Nat) g, fs[j]? = some g → g.nm ≠ s
theorem first_or (fs : List Fl) (s : ByteArray) : (∃ i f, FirstAt fs s i f) ∨ NoneAt fs s := by
  by_cases h : ∃ (i : Nat) (f : Fl), fs[i]? = some f ∧ f.nm = s
  · obtain ⟨i, f, h1, h2⟩ := h
    induction i using Nat.strongRecOn generalizing f with
    | _ i ih =>
      by_cases h3 : ∃ (j : Nat) (g : Fl), j < i ∧ fs[j]? = some g ∧ g.nm = s
      · obtain ⟨j, g, h4, h5, h6⟩ := h3
        exact ih j h4 g h5 h6
      · exact .inl ⟨i, f, h1, h2, fun j g h4 h5 h6 => h3 ⟨j, g, h4, h5, h6⟩⟩
  · exact .inr fun j g h1 h2 => h ⟨j, g, h1, h2⟩

/-- The row has a place, where there is something in it. -/
theorem RefAt.row_at {w : World} {r : Nat} {T : Nat → Prop} {A : Option Addr} {n c : Nat} {rs : List Raw} {fs : List Fl} (h : RefAt w r T (.slice A n c) rs fs) (k : Nat) (hk : k < fs.length) :
    ∃ g x f, A = some ⟨g, 0, none⟩ ∧ rs[k]? = some x ∧ fs[k]? = some f ∧ RawOk w T r (.slice A n c) x f := by
  have hl := h.len
  obtain ⟨g, cap, hv, _⟩ := Kd.R_form h.row (by omega)
  injection hv with e1 e2 e3
  have hx : rs[k]? = some rs[k] := List.getElem?_eq_getElem (by omega)
  have hf : fs[k]? = some fs[k] := List.getElem?_eq_getElem hk
  exact ⟨g, _, _, e1, hx, hf, h.files k _ _ hx hf⟩
theorem RefAt.n_eq {w : World} {r : Nat} {T : Nat → Prop} {A : Option Addr} {n c : Nat} {rs : List Raw} {fs : List Fl} (h : RefAt w r T (.slice A n c) rs fs) : n = fs.length := by
  obtain ⟨hn, _⟩ := Kd.R_reads' h.row
  rw [hn, h.len]

set_option maxHeartbeats 1000000 in
theorem find_walk (r : Nat) (T : Nat → Prop) (v : Value) (rs : List Raw) (fs : List Fl) (s : ByteArray) (w : World) (H : RefAt w r T v rs fs) (hn : fs.length < 1000000) :
    Calls Try.prog 25 #[.pointer (some ⟨r, 0, none⟩), .string s] w fun e w' => w' = w ∧
      ((∃ (i : Nat) (f : Fl), e = .returned (.int .i64 i) ∧ FirstAt fs s i f) ∨ (e = .returned (.int .i64 (-1)) ∧ NoneAt fs s)) := by
  have HR := hide H
  obtain ⟨A, c, hv⟩ := H.form
  subst hv
  have hl := H.n_eq
  rw [hl] at HR
  obtain ⟨hc, -⟩ := H.cell0
  rw [hl] at hc
  clear H hl
  go_enter Try.func25, Try.ntmps25
  go_wp2
  go_loopw [5] (fun i wr => wr = w ∧ ∃ k : Nat, i = .int .i64 k ∧ k ≤ fs.length ∧ ∀ (j : Nat) g, j < k → fs[j]? = some g → g.nm ≠ s) (fun i _ => fs.length - (intOf i).toNat)
  case atStart => exact ⟨rfl, 0, rfl, by omega, fun j g h => absurd h (by omega)⟩
  case round =>
    obtain ⟨rfl, k, rfl, hk, hno⟩ := hrel
    have HN := hide hno
    clear hno
    by_cases hlt : k < fs.length
    · obtain ⟨g, x, f, e1, hx, hf, hok⟩ := HR.out.row_at k hlt
      subst e1
      obtain ⟨c0, c1, c2, c3⟩ := raw_at HR.out.row k x hx
      have e2 := hide hok.1
      have HF := hide hf
      clear hok hf hx c3 c1 c2
      by_cases hs : x.nm = s
      · have hs' := (Lib.bytes_beq_iff _ _).2 hs
        have HS := hide hs
        clear hs
        go_wp2
        go_ret
        exact ⟨rfl, .inl ⟨k, f, rfl, HF.out, by rw [← e2.out]; exact HS.out, HN.out⟩⟩
      · have hs' := (Lib.bytes_beq_false_iff _ _).2 hs
        go_wp2
        go_roundw
        case rel =>
          refine ⟨trivial, k + 1, by simp, by omega, fun j g' h1 h2 h3 => ?_⟩
          by_cases hj : j = k
          · subst hj
            rw [HF.out] at h2
            injection h2 with h2
            subst h2
            exact hs (by rw [e2.out]; exact h3)
          · exact HN.out j g' (by omega) h2 h3
        case measure =>
          show fs.length - ((k : Int) + 1).toNat < fs.length - (k : Int).toNat
          omega
    · go_wp2
      go_ret
      refine ⟨rfl, .inr ⟨rfl, fun j g h => HN.out j g ?_ h⟩⟩
      have := (List.getElem?_eq_some_iff.1 h).1
      omega

theorem filter_pairs {α β : Type} (P : α → Bool) (Q : β → Bool) : ∀ (l : List α) (m : List β), l.length = m.length → (∀ (i : Nat) x y, l[i]? = some x → m[i]? = some y → P x = Q y) →
    (l.filter P).length = (m.filter Q).length ∧ ∀ (i : Nat) x y, (l.filter P)[i]? = some x → (m.filter Q)[i]? = some y → ∃ j : Nat, l[j]? = some x ∧ m[j]? = some y
  | [], [], _, _ => ⟨rfl, fun i x y h => by simp at h⟩
  | a :: l, b :: m, hl, h => by
    have h0 := h 0 a b rfl rfl
    obtain ⟨ih1, ih2⟩ := filter_pairs P Q l m (by simpa using hl) (fun i x y h1 h2 => h (i + 1) x y (by simpa using h1) (by simpa using h2))
    have up : ∀ (i : Nat) x y, (l.filter P)[i]? = some x → (m.filter Q)[i]? = some y → ∃ j : Nat, (a :: l)[j]? = some x ∧ (b :: m)[j]? = some y := fun i x y h1 h2 => by
      obtain ⟨j, h3, h4⟩ := ih2 i x y h1 h2
      exact ⟨j + 1, by simpa using h3, by simpa using h4⟩
    by_cases hp : P a = true
    · have hq : Q b = true := by rw [← h0]; exact hp
      rw [List.filter_cons_of_pos hp, List.filter_cons_of_pos hq]
      refine ⟨by simp [ih1], fun i x y h1 h2 => ?_⟩
      rcases i with _ | i
      · exact ⟨0, by simpa using h1, by simpa using h2⟩
      · exact up i x y (by simpa using h1) (by simpa using h2)
    · have hq : ¬ Q b = true := by rw [← h0]; exact hp
      rw [List.filter_cons_of_neg hp, List.filter_cons_of_neg hq]
      exact ⟨ih1, up⟩

theorem infoF : (Try.prog.info? 63).map (fun i => (i.zero, i.size, i.bytes)) = some (some (.agg #[.string ⟨#[]⟩, .slice none 0 0, .bool false]), 3, 48) := by kernel_rfl
theorem raw_empty (W : World) (e : TypeId) (ok : Nat → Prop) (h : ok W.heap.size) : kRaw.R e (W.alloc (.cells #[] e)) W.heap.size ok (.slice (some ⟨W.heap.size, 0, none⟩) 0 0) [] :=
  ⟨fun k hk => by simp [Value.ownBlock] at hk; rw [← hk]; exact h, OwnRow.lit W W.heap.size (inner := []) (ps := []) (Reps.none _ _) (Nat.le_refl _) (by simp)⟩

set_option maxHeartbeats 1000000 in
theorem drop_walk (r : Nat) (T : Nat → Prop) (v : Value) (rs : List Raw) (fs : List Fl) (s : ByteArray) (w : World) (H : RefAt w r T v rs fs) (hT : ∀ k, T k → k < w.heap.size) (hn : fs.length < 1000000) :
    Calls Try.prog 26 #[.pointer (some ⟨r, 0, none⟩), .string s] w fun e w' => e = .returned (.tuple #[]) ∧ Kp (fun k => k = r) w w' ∧ ∃ v' rs', RefAt w' r (more T w w') v' rs' (fs.filter (fun f => f.nm ≠ s)) ∧ ∀ k, v'.ownBlock = some k → w.heap.size ≤ k := by
  have HR := hide H
  obtain ⟨A, c, hv⟩ := H.form
  subst hv
  have hl := H.n_eq
  rw [hl] at HR
  obtain ⟨hc, hf⟩ := H.cell0
  rw [hl] at hc
  have hrw := H.lt
  clear H hl
  go_enter Try.func26, Try.ntmps26
  go_wp2
  have HE := hide (raw_empty w 63 (fun k => w.heap.size ≤ k) (Nat.le_refl _))
  go_loopw [4, 5] (fun out i wr => ∃ (k : Nat) (outs : List Raw), i = .int .i64 k ∧ k ≤ fs.length ∧ kRaw.R 63 wr w.heap.size (fun b => w.heap.size ≤ b) out outs ∧ outs = (rs.take k).filter (fun x => x.nm ≠ s) ∧ Below w.heap.size w wr) (fun _ i _ => fs.length - (intOf i).toNat)
  case atStart => exact ⟨0, [], rfl, by omega, HE.out, rfl, (Below.refl _ _).alloc (Nat.le_refl _) _⟩
  case round =>
    obtain ⟨k, outs, rfl, hk, hout, hfl, hb⟩ := hrel
    have HO := hide hout
    have HFL := hide hfl
    have HB := hide hb
    have hc' : wr.cell? ⟨r, 0, none⟩ = some (.slice A fs.length c) := pw_cell_below hb hc
    have hlo : outs.length ≤ k := by rw [hfl]; exact Nat.le_trans (List.length_filter_le _ _) (by rw [List.length_take]; omega)
    clear hout hfl hb
    by_cases hlt : k < fs.length
    · obtain ⟨g, x, f, e1, hx, hff, hok⟩ := HR.out.row_at k hlt
      subst e1
      obtain ⟨c0, c1, c2, c3⟩ := raw_at (Kd.R_step HR.out.row fun k ho hlt => HB.out.block k hlt) k x hx
      have e2 := hide hok.1
      have HX := hide hx
      clear hok hff hx c3
      by_cases hs : x.nm = s
      · have hs' := (Lib.bytes_beq_iff _ _).2 hs
        have HS := hide hs
        clear hs
        go_wp2
        go_roundw
        case rel =>
          refine ⟨k + 1, outs, by simp, by omega, HO.out, ?_, HB.out⟩
          rw [HFL.out, List.take_add_one, HX.out, List.filter_append]
          simp [HS.out]
        case measure =>
          show fs.length - ((k : Int) + 1).toNat < fs.length - (k : Int).toNat
          omega
      · have hs' := (Lib.bytes_beq_false_iff _ _).2 hs
        go_wp2_with (first | (at_builtin; refine Kd.R_append kRaw (w0 := w) w.heap.size rfl _ _ 27 63 (.agg #[.string ⟨#[]⟩, .slice none 0 0, .bool false]) 48 rfl Try.underlying27 infoF rfl (show 0 < 3 by decide) (by decide) u4 outs x [.string x.nm, .slice x.A x.n x.c, .bool x.s] (fun b => w.heap.size ≤ b) (fun _ => False) rfl rfl (raw_mkM _ _ _ x) (fun _ h => h.elim) ?_ HO.out HB.out HB.out.size ?_ ?_))
        · intro b hb
          have := HB.out.size
          omega
        · omega
        intro v1 w1 hown hb hg hat
        have HO1 := hide hown
        have HB1 := hide hb
        clear hown hb hg hat
        go_wp2
        go_roundw
        case rel =>
          refine ⟨k + 1, outs ++ [x], by simp, by omega, HO1.out, ?_, HB1.out⟩
          rw [HFL.out, List.take_add_one, HX.out, List.filter_append]
          simp [hs]
        case measure =>
          show fs.length - ((k : Int) + 1).toNat < fs.length - (k : Int).toNat
          omega
    · have hf' : wr.frozen? ⟨r, 0, none⟩ = false := by
        unfold World.frozen?
        rw [HB.out.block r hrw, HR.out.cell]
        simp
      obtain ⟨A2, c2, hv2⟩ := Kd.R_slice HO.out
      subst hv2
      go_wp2
      go_end0
      have hkn : k = fs.length := by omega
      subst hkn
      have hrl := HR.out.len
      have hfl' : outs = rs.filter (fun x => x.nm ≠ s) := by rw [HFL.out, ← hrl, List.take_length]
      have hsz := HB.out.size
      refine ⟨rfl, Kp.setCell (S := fun k => k = r) (Kp.of_below HB.out) (a := ⟨r, 0, none⟩) (.inl rfl) _, (.slice A2 outs.length c2), outs, ⟨?_, ?_, ?_, ?_, ?_, ?_⟩, fun k e => HO.out.1 k e⟩
      · have := blk_set (w := wr) (g := r) (t := 29) (cs := #[.slice A fs.length c]) ((HB.out.block r hrw).trans HR.out.cell) 0 (.slice A2 outs.length c2)
        exact this
      · exact .inl HR.out.tr
      · have h1 := Kd.R_far HO.out (p := ⟨r, 0, none⟩) (fun k hk => by show k ≠ r; omega) (.slice A2 outs.length c2)
        exact Kd.R_lower (Kd.R_tight rfl h1) (Nat.zero_le _)
      · intro k e
        have h1 := HO.out.1 k e
        have h2 := (Kd.R_bound HO.out).1 k e
        exact ⟨.inr ⟨h1, by simpa using h2.2.2.1⟩, by omega, by simpa using h2.2.2.1⟩
      · rw [hfl']
        exact (filter_pairs _ _ rs fs hrl (fun i x y h1 h2 => by have := (HR.out.files i x y h1 h2).1; simp [this])).1
      · intro i x f hx hf0
        rw [hfl'] at hx
        obtain ⟨j, h1, h2⟩ := (filter_pairs (fun x : Raw => decide (x.nm ≠ s)) (fun f : Fl => decide (f.nm ≠ s)) rs fs hrl (fun i x y h1 h2 => by have := (HR.out.files i x y h1 h2).1; simp [this])).2 i x f hx hf0
        have hok := HR.out.files j x f h1 h2
        refine ⟨hok.1, hok.2.1, hok.2.2.1, hok.2.2.2.1, hok.2.2.2.2.1, C_cells hok.2.2.2.2.2.1 (fun ad e a v hab hcell => ?_), fun ad e => ?_⟩
        · have h3 := hok.2.2.2.2.2.2 ad e
          refine cell_block ?_ hcell
          rw [hab, Below.heap_setCell wr ⟨r, 0, none⟩ (.slice A2 outs.length c2) ad.block h3.2.1]
          exact HB.out.block _ h3.2.2.2
        · have h3 := hok.2.2.2.2.2.2 ad e
          refine ⟨.inl h3.1, h3.2.1, fun e2 => ?_, by simp; omega⟩
          have := HO.out.1 ad.block e2.symm
          omega
end Go.Proofs.Ytdjbapbfbgcfjaa
