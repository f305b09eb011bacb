/- Walks: bytes.Clone, and what writes one file. -/
import Derived.Test.YtdjbapbfbgcfjaaDiskSt
import Derived.WalkSpells
import Derived.Deep.RegionWith
import Derived.Deep.QuietTactic
import Derived.BigQuiet
set_option linter.unusedVariables false
set_option linter.unusedSimpArgs false
namespace Go.Proofs.Ytdjbapbfbgcfjaa
open Go.RowKit Go.Maps Go.ChangeMaps Go.MapKept Mv Go.Proofs.YtdjbapbfbgcfjaaW.PrintWords

theorem info5 : (Try.prog.info? 5).map (fun i => (i.zero, i.size, i.bytes)) = some (some (.int .u8 0), 1, 1) := by kernel_rfl

theorem own_empty (W : World) (e : TypeId) (k : IntKind) (ok : Nat → Prop) (h : ok W.heap.size) : (Kd.int k).R e (W.alloc (.cells #[] e)) W.heap.size ok (.slice (some ⟨W.heap.size, 0, none⟩) 0 0) [] := by
  refine Kd.R_of_own ?_ ?_
  · have h := own_lit W W.heap.size e k [] (Nat.le_refl _) (by simp)
    simpa [nums, encs] using h
  · intro j hj
    simp [Value.ownBlock] at hj
    subst hj
    exact h

set_option maxHeartbeats 400000 in
theorem clone_nil (l : List Int) (c : Nat) (w : World) :
    Calls Try.prog 30 #[.slice none 0 c] w fun e w' => e = .returned (.slice none 0 0) ∧ w' = w := by
  have hn := fun w => Lib.run_eql_slice_nil (P := Try.prog) w 30 5 none 0 c 0 0 Try.underlying30
  go_enter Try.func30, Try.ntmps30
  go_wp2
  go_ret
  exact ⟨rfl, rfl⟩

set_option maxHeartbeats 400000 in
theorem clone_any (ad : Addr) (l : List Int) (c : Nat) (w : World) (h : U8.C w (some ad) l.length l) (hc : l.length ≤ 140737488355327) :
    Calls Try.prog 30 #[.slice (some ad) l.length c] w fun e w' => ∃ v, e = .returned v ∧ U8.R 5 w' w.heap.size (fun k => w.heap.size ≤ k) v l ∧ Below w.heap.size w w' := by
  have hn := fun w => Lib.run_eql_slice_nil (P := Try.prog) w 30 5 (some ad) l.length c 0 0 Try.underlying30
  have HR := hide (Kd.C_below h (below_alloc (Below.refl _ w) (.cells #[] 5)))
  have HO := hide (own_empty w 5 .u8 (fun k => w.heap.size ≤ k) (Nat.le_refl _))
  clear h
  go_enter Try.func30, Try.ntmps30
  go_wp2_with (first
    | (at_builtin; refine Kd.R_append_row (w0 := w) (Value.int .u8) 0 w.heap.size rfl _ _ 30 5 (.int .u8 0) 1 rfl Try.underlying30 info5 rfl (by omega) _ [] l (some ad) l.length c (fun k => w.heap.size ≤ k) rfl rfl ?_ HO.out HR.out (below_alloc (Below.refl _ w) _) (by simp) (by simp; omega) ?_))
  · intro k hk
    simp at hk
    omega
  · intro v1 w1 hown hb hg hat
    go_wp2
    go_ret
    exact ⟨_, rfl, hown, hb⟩

/-- A copy of what is read, nil or not. -/
theorem clone_all (A : Option Addr) (l : List Int) (c : Nat) (w : World) (h : U8.C w A l.length l) (hc : l.length ≤ 140737488355327) :
    Calls Try.prog 30 #[.slice A l.length c] w fun e w' => ∃ v, e = .returned v ∧ U8.R 5 w' w.heap.size (fun k => w.heap.size ≤ k) v l ∧ Below w.heap.size w w' := by
  cases A with
  | none =>
    have h0 : l.length = 0 := by
      rcases Nat.eq_zero_or_pos l.length with h0 | h0
      · exact h0
      · obtain ⟨ad, e, _⟩ := h.2.2 h0
        cases e
    have hl : l = [] := List.eq_nil_of_length_eq_zero h0
    subst hl
    refine (clone_nil [] c w).mono ?_
    rintro e w' ⟨rfl, rfl⟩
    exact ⟨_, rfl, Kd.R_nil _ _ _ _ _, Below.refl _ _⟩
  | some ad => exact clone_any ad l c w h hc

open Classical in
/-- The files with one more, or another one. -/
noncomputable def updF (F : Lit → Option (List Int × Bool)) (kl : Lit) (v : Option (List Int × Bool)) : Lit → Option (List Int × Bool) := fun x => if x = kl then v else F x

theorem FilesAt.upd {w : World} {S : Nat → Prop} {M : Lit → Option Value} {F : Lit → Option (List Int × Bool)} (h : FilesAt w S M F) (kl : Lit) {v : Value} {f : List Int × Bool} (hf : FileAt w S v f) : FilesAt w S (Mv.upd M kl (some v)) (updF F kl (some f)) := by
  intro x
  unfold Mv.upd updF
  split
  · exact ⟨fun e => (by cases e), fun f' e => (by cases e; exact ⟨v, rfl, hf⟩)⟩
  · exact h x

theorem FilesAt.del {w : World} {S : Nat → Prop} {M : Lit → Option Value} {F : Lit → Option (List Int × Bool)} (h : FilesAt w S M F) (kl : Lit) : FilesAt w S (Mv.upd M kl none) (updF F kl none) := by
  intro x
  unfold Mv.upd updF
  split
  · exact ⟨fun _ => rfl, fun f' e => (by cases e)⟩
  · exact h x

/-- What the disk has behind a call: its blocks, and what was made. -/
def more (S : Nat → Prop) (w w' : World) : Nat → Prop := fun k => S k ∨ (w.heap.size ≤ k ∧ k < w'.heap.size)

set_option maxHeartbeats 400000 in
theorem write_walk (g m n : Nat) (M : Lit → Option Value) (s : ByteArray) (A : Option Addr) (l : List Int) (c : Nat) (w : World) (hs : s.size ≤ maxLen) (h : U8.C w A l.length l) (hl : l.length ≤ 65536)
    (c0 : w.cell? ⟨g, 0, none⟩ = some (.map (some m))) (HM : MapV Try.prog 9 w m n M) (hn : n < maxLen) :
    Calls Try.prog 22 #[.pointer (some ⟨g, 0, none⟩), .string s, .slice A l.length c] w fun e w' => ∃ v w1, e = .returned (.int .i64 0) ∧ U8.R 5 w1 w.heap.size (fun k => w.heap.size ≤ k) v l ∧ Below w.heap.size w w1 ∧
      MapV Try.prog 9 w' m (n + 1) (Mv.upd M (nm s) (some (.agg #[v, .bool false]))) ∧ w1.mapTurned w' m := by
  have hkey := key9 hs
  have hl' : ¬ ((l.length : Int) > 65536) := by omega
  have HM' := hide HM
  have HC := hide h
  clear h
  go_enter Try.func22, Try.ntmps22
  go_wp2_with fail
  go_region_with (first
    | (go_at_call 30
       refine (clone_all A l c w.drew HC.out (by omega)).mono ?_
       rintro e w1 ⟨v, rfl, hv, hb⟩
       obtain ⟨A', c', rfl⟩ := Kd.R_slice hv
       have hb' : Below w.heap.size w w1 := ⟨hb.os, hb.tape, hb.output, hb.size, hb.block⟩
       have c1 : w1.cell? ⟨g, 0, none⟩ = some (.map (some m)) := pw_cell_below hb' c0
       obtain ⟨w2, hrun, hM2, ht2⟩ := (HM'.out.same (hb'.block m HM'.out.lt)).store law9 Try.underlying55 hn (.agg #[.slice A' l.length c', .bool false]) hkey
       have hv' := hide hv
       have hb2 := hide hb'
       have hM2' := hide hM2
       have ht2' := hide ht2
       clear hv hb hb' hM2 ht2))
  all_goals go_wp2
  all_goals go_ret
  all_goals exact ⟨_, w1, rfl, hv'.out, hb2.out, hM2'.out, ht2'.out⟩

theorem R_cap {w : World} {base : Nat} {ok : Nat → Prop} {A : Option Addr} {n c : Nat} {l : List Int} (h : U8.R 5 w base ok (.slice A n c) l) : A = none → c = 0 := by
  intro e
  subst e
  obtain ⟨_, inner, ho, _⟩ := h
  rcases ho.2 with ⟨h1, _⟩ | ⟨g, cap, cur, h1, _⟩
  · cases h1; rfl
  · cases h1

theorem FileAt.made {w w1 : World} {S : Nat → Prop} {v : Value} {l : List Int} {b : Bool} (h : U8.R 5 w1 w.heap.size (fun k => w.heap.size ≤ k) v l) (hl : l.length ≤ 65536) (hS : ∀ k, w.heap.size ≤ k → k < w1.heap.size → S k) : FileAt w1 S (.agg #[v, .bool b]) (l, b) := by
  obtain ⟨A, c, rfl, hc, hr⟩ := Kd.R_reads h
  refine ⟨A, c, rfl, hc, R_cap h, hl, hr, fun ad e => ?_⟩
  subst e
  obtain ⟨h1, h2⟩ := (Kd.R_bound h).1 ad.block rfl
  exact hS _ h1 h2.2.1

theorem write_any (g n : Nat) (S : Nat → Prop) (F : Lit → Option (List Int × Bool)) (s : ByteArray) (A : Option Addr) (l : List Int) (c : Nat) (w : World) (H : DiskAt w g S n F) (hs : s.size ≤ maxLen) (h : U8.C w A l.length l) (hl : l.length ≤ 65536) (hn : n < maxLen) :
    Calls Try.prog 22 #[.pointer (some ⟨g, 0, none⟩), .string s, .slice A l.length c] w fun e w' => e = .returned (.int .i64 0) ∧ DiskAt w' g (more S w w') (n + 1) (updF F (nm s) (some (l, false))) ∧ Kp S w w' := by
  obtain ⟨m, M, h1, h2, h3, h4, h5, h6⟩ := H
  have hgm : g ≠ m := fun e => h2.nocell (a := ⟨g, 0, none⟩) (v := .map (some m)) (by simp [World.cell?, h1]) e.symm
  refine (write_walk g m n M s A l c w hs h hl (by simp [World.cell?, h1]) h2 hn).mono ?_
  rintro e w' ⟨v, w1, rfl, hv, hb, hM, ht⟩
  have hk : Kp S w w' := (Kp.of_below hb).turned ht (.inl h5)
  have hsz := turned_size ht
  refine ⟨rfl, ⟨m, _, ?_, hM, ?_, .inl h4, .inl h5, by have := hk.size; omega⟩, hk⟩
  · rw [turned_block ht hgm, hb.block g h6]; exact h1
  · exact (FilesAt.upd (FilesAt.keep h3 (fun a v _ hc => pw_cell_below hb hc) fun k hks => .inl hks) _ (FileAt.made hv hl fun k h1 h2 => .inr ⟨h1, by rw [hsz]; exact h2⟩)).keep (fun a v _ hc => by rw [turned_cell ht]; exact hc) fun k hk => hk

set_option maxHeartbeats 400000 in
theorem sync_no (g m n : Nat) (M : Lit → Option Value) (s : ByteArray) (w : World) (hs : s.size ≤ maxLen)
    (c0 : w.cell? ⟨g, 0, none⟩ = some (.map (some m))) (HM : MapV Try.prog 9 w m n M) (hM : M (nm s) = none) :
    Calls Try.prog 11 #[.pointer (some ⟨g, 0, none⟩), .string s] w fun e w' => e = .returned (.int .i64 2) ∧ Below w.heap.size w w' := by
  have hkey := key9 hs
  have HM' := hide HM
  clear HM
  go_enter Try.func11, Try.ntmps11
  go_wp2_with (first
    | (at_lookup; refine op_lookok _ rfl _ _ 55 rfl 9 59 law9 Try.underlying55 _ (zero59 _) m n M rfl HM'.out _ _ rfl hkey ?_; rw [hM]))
  go_ret
  exact ⟨rfl, (Below.refl _ _).alloc (Nat.le_refl _) _⟩

set_option maxHeartbeats 400000 in
theorem sync_yes (g m n : Nat) (M : Lit → Option Value) (s : ByteArray) (A : Option Addr) (k c : Nat) (f : Bool) (w : World) (hs : s.size ≤ maxLen)
    (c0 : w.cell? ⟨g, 0, none⟩ = some (.map (some m))) (HM : MapV Try.prog 9 w m n M) (hM : M (nm s) = some (.agg #[.slice A k c, .bool f])) (hn : n < maxLen) :
    Calls Try.prog 11 #[.pointer (some ⟨g, 0, none⟩), .string s] w fun e w' => ∃ w1, e = .returned (.int .i64 0) ∧ Below w.heap.size w w1 ∧ MapV Try.prog 9 w' m (n + 1) (Mv.upd M (nm s) (some (.agg #[.slice A k c, .bool true]))) ∧ w1.mapTurned w' m := by
  have hkey := key9 hs
  have HM' := hide HM
  obtain ⟨w2, hrun, hM2, ht2⟩ := (HM.same (w1 := (w.alloc (.cells #[.slice A k c, .bool true] 59)).drew) (Below.heap_alloc w _ m HM.lt)).store law9 Try.underlying55 hn (.agg #[.slice A k c, .bool true]) hkey
  have hM2' := hide hM2
  have ht2' := hide ht2
  have c1 : (w.alloc (.cells #[.slice A k c, .bool true] 59)).cell? ⟨g, 0, none⟩ = some (.map (some m)) := (World.cell?_alloc_lt _ _ _ (World.block_lt_of_cell? w _ c0)).trans c0
  clear HM hM2 ht2
  go_enter Try.func11, Try.ntmps11
  go_wp2_with (first
    | (at_lookup; refine op_lookok _ rfl _ _ 55 rfl 9 59 law9 Try.underlying55 _ (zero59 _) m n M rfl HM'.out _ _ rfl hkey ?_; rw [hM]))
  go_region
  go_wp2
  go_ret
  exact ⟨_, rfl, ((Below.refl _ _).alloc (Nat.le_refl _) _).drew, hM2'.out, ht2'.out⟩

theorem updF_self {F : Lit → Option (List Int × Bool)} {kl : Lit} {f : Option (List Int × Bool)} (h : F kl = f) : updF F kl f = F := by
  funext x
  unfold updF
  split
  · rename_i hx; rw [hx, h]
  · rfl

/-- What Sync does to the files. -/
noncomputable def syncF (F : Lit → Option (List Int × Bool)) (kl : Lit) : Lit → Option (List Int × Bool) := updF F kl ((F kl).map fun f => (f.1, true))

theorem more_kp {S : Nat → Prop} {w w' : World} (k : Nat) (h : S k) : more S w w' k := .inl h

theorem DiskAt.below {w w' : World} {g n : Nat} {S : Nat → Prop} {F : Lit → Option (List Int × Bool)} (H : DiskAt w g S n F) (hb : Below w.heap.size w w') (hS : ∀ k, S k → k < w.heap.size) : DiskAt w' g S n F :=
  H.keep (fun k hk hlt => hb.block k hlt) hb.size fun _ hk => hk

theorem sync_any (g n : Nat) (S : Nat → Prop) (F : Lit → Option (List Int × Bool)) (s : ByteArray) (w : World) (H : DiskAt w g S n F) (hs : s.size ≤ maxLen) (hn : n < maxLen) :
    Calls Try.prog 11 #[.pointer (some ⟨g, 0, none⟩), .string s] w fun e w' => e = .returned (.int .i64 (if (F (nm s)).isSome then 0 else 2)) ∧ DiskAt w' g (more S w w') (n + 1) (syncF F (nm s)) ∧ Kp S w w' := by
  obtain ⟨m, M, h1, h2, h3, h4, h5, h6⟩ := H
  have hgm : g ≠ m := fun e => h2.nocell (a := ⟨g, 0, none⟩) (v := .map (some m)) (by simp [World.cell?, h1]) e.symm
  cases hF : F (nm s) with
  | none =>
    refine (sync_no g m n M s w hs (by simp [World.cell?, h1]) h2 ((h3 _).1 hF)).mono ?_
    rintro e w' ⟨rfl, hb⟩
    refine ⟨rfl, ?_, Kp.of_below hb⟩
    rw [syncF, hF, Option.map_none, updF_self hF]
    exact ⟨m, M, (hb.block g h6).trans h1, (h2.same (hb.block m h2.lt)).mono (by omega), h3.keep (fun a v _ hc => pw_cell_below hb hc) more_kp, .inl h4, .inl h5, by have := hb.size; omega⟩
  | some f =>
    obtain ⟨v, hv, A, c, rfl, q1, q2, q3, q4, q5⟩ := (h3 _).2 f hF
    refine (sync_yes g m n M s A f.1.length c f.2 w hs (by simp [World.cell?, h1]) h2 hv hn).mono ?_
    rintro e w' ⟨w1, rfl, hb, hM, ht⟩
    have hk : Kp S w w' := (Kp.of_below hb).turned ht (.inl h5)
    refine ⟨rfl, ?_, hk⟩
    rw [syncF, hF]
    refine ⟨m, _, ?_, hM, ?_, .inl h4, .inl h5, by have := hk.size; omega⟩
    · rw [turned_block ht hgm, hb.block g h6]; exact h1
    · refine (FilesAt.upd (FilesAt.keep h3 (fun a v _ hc => pw_cell_below hb hc) more_kp) _ (f := (f.1, true)) ⟨A, c, rfl, q1, q2, q3, ?_, fun ad e => .inl (q5 ad e)⟩).keep (fun a v _ hc => by rw [turned_cell ht]; exact hc) fun k hk => hk
      exact C_cells q4 fun ad e a v _ hc => pw_cell_below hb hc
end Go.Proofs.Ytdjbapbfbgcfjaa
