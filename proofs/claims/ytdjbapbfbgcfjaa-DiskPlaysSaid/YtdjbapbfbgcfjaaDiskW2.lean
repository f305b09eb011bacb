/- Walks: Rename, Read, Load, New. -/
import Derived.Test.YtdjbapbfbgcfjaaDiskW1
set_option linter.unusedVariables false
set_option linter.unusedSimpArgs false
namespace Go.Proofs.Ytdjbapbfbgcfjaa
open Go.RowKit Go.Maps Go.ChangeMaps Go.MapKept Mv Go.Proofs.YtdjbapbfbgcfjaaW.PrintWords

set_option maxHeartbeats 400000 in
theorem rename_no (g m n : Nat) (M : Lit → Option Value) (s t : ByteArray) (w : World) (hs : s.size ≤ maxLen)
    (c0 : w.cell? ⟨g, 0, none⟩ = some (.map (some m))) (HM : MapV Try.prog 9 w m n M) (hM : M (nm s) = none) :
    Calls Try.prog 13 #[.pointer (some ⟨g, 0, none⟩), .string s, .string t] w fun e w' => e = .returned (.int .i64 2) ∧ Below w.heap.size w w' := by
  have hkey := key9 hs
  have HM' := hide HM
  clear HM
  go_enter Try.func13, Try.ntmps13
  go_wp2_with (first
    | (at_lookup; refine op_lookok _ rfl _ _ 55 rfl 9 59 law9 Try.underlying55 _ (zero59 _) m n M rfl HM'.out _ _ rfl hkey ?_; rw [hM]))
  go_ret
  exact ⟨rfl, (Below.refl _ _).alloc (Nat.le_refl _) _⟩

set_option maxHeartbeats 400000 in
theorem rename_yes (g m n : Nat) (M : Lit → Option Value) (s t : ByteArray) (A : Option Addr) (k c : Nat) (f : Bool) (w : World) (hs : s.size ≤ maxLen) (ht : t.size ≤ maxLen)
    (c0 : w.cell? ⟨g, 0, none⟩ = some (.map (some m))) (HM : MapV Try.prog 9 w m n M) (hM : M (nm s) = some (.agg #[.slice A k c, .bool f])) (hn : n < maxLen) :
    Calls Try.prog 13 #[.pointer (some ⟨g, 0, none⟩), .string s, .string t] w fun e w' => ∃ w1 w2, e = .returned (.int .i64 0) ∧ Below w.heap.size w w1 ∧ w1.mapTurned w2 m ∧ MapV Try.prog 9 w' m (n + 1) (Mv.upd (Mv.upd M (nm s) none) (nm t) (some (.agg #[.slice A k c, .bool f]))) ∧ w2.drew.mapTurned w' m := by
  have hkey := key9 hs
  have hkey2 := key9 ht
  have HM' := hide HM
  have HMa := hide (HM.same (w1 := w.alloc (.cells #[.slice A k c, .bool f] 59)) (Below.heap_alloc w _ m HM.lt))
  have c1 : (w.alloc (.cells #[.slice A k c, .bool f] 59)).cell? ⟨g, 0, none⟩ = some (.map (some m)) := (World.cell?_alloc_lt _ _ _ (World.block_lt_of_cell? w _ c0)).trans c0
  clear HM
  go_enter Try.func13, Try.ntmps13
  go_wp2_with (first
    | (at_lookup; refine op_lookok _ rfl _ _ 55 rfl 9 59 law9 Try.underlying55 _ (zero59 _) m n M rfl HM'.out _ _ rfl hkey ?_; rw [hM])
    | (at_delete; refine op_delete _ rfl _ _ 55 9 rfl 59 law9 Try.underlying55 m n M rfl HMa.out _ _ rfl hkey ?_; intro w1 hM1 ht1
       obtain ⟨w2, hrun, hM2, ht2⟩ := (hM1.same (w1 := w1.drew) rfl).store law9 Try.underlying55 hn (.agg #[.slice A k c, .bool f]) hkey2
       have d0 : w1.cell? ⟨g, 0, none⟩ = some (.map (some m)) := (turned_cell ht1 _).trans c1
       have d1 : w1.cell? ⟨w.heap.size, 0, none⟩ = some (.slice A k c) := (turned_cell ht1 _).trans (by simp)
       have d2 : w1.cell? ⟨w.heap.size, 1, none⟩ = some (.bool f) := (turned_cell ht1 _).trans (by simp)
       have hM2' := hide hM2
       have ht2' := hide ht2
       have ht1' := hide ht1
       clear hM1 ht1 hM2 ht2))
  go_region
  all_goals go_wp2
  all_goals go_ret
  all_goals exact ⟨_, w1, rfl, (Below.refl _ _).alloc (Nat.le_refl _) _, ht1'.out, hM2'.out, ht2'.out⟩

/-- What Rename does to the files. -/
noncomputable def renF (F : Lit → Option (List Int × Bool)) (a b : Lit) : Lit → Option (List Int × Bool) := if (F a).isSome = true then updF (updF F a none) b (F a) else F

theorem rename_any (g n : Nat) (S : Nat → Prop) (F : Lit → Option (List Int × Bool)) (s t : ByteArray) (w : World) (H : DiskAt w g S n F) (hs : s.size ≤ maxLen) (ht : t.size ≤ maxLen) (hn : n < maxLen) :
    Calls Try.prog 13 #[.pointer (some ⟨g, 0, none⟩), .string s, .string t] w fun e w' => e = .returned (.int .i64 (if (F (nm s)).isSome then 0 else 2)) ∧ DiskAt w' g (more S w w') (n + 1) (renF F (nm s) (nm t)) ∧ Kp S w w' := by
  obtain ⟨m, M, h1, h2, h3, h4, h5, h6⟩ := H
  have hgm : g ≠ m := fun e => h2.nocell (a := ⟨g, 0, none⟩) (v := .map (some m)) (by simp [World.cell?, h1]) e.symm
  cases hF : F (nm s) with
  | none =>
    refine (rename_no g m n M s t w hs (by simp [World.cell?, h1]) h2 ((h3 _).1 hF)).mono ?_
    rintro e w' ⟨rfl, hb⟩
    refine ⟨rfl, ?_, Kp.of_below hb⟩
    have e1 : renF F (nm s) (nm t) = F := by unfold renF; rw [hF]; simp
    rw [e1]
    exact ⟨m, M, (hb.block g h6).trans h1, (h2.same (hb.block m h2.lt)).mono (by omega), h3.keep (fun a v _ hc => pw_cell_below hb hc) more_kp, .inl h4, .inl h5, by have := hb.size; omega⟩
  | some f =>
    obtain ⟨v, hv, A, c, rfl, q1, q2, q3, q4, q5⟩ := (h3 _).2 f hF
    refine (rename_yes g m n M s t A f.1.length c f.2 w hs ht (by simp [World.cell?, h1]) h2 hv hn).mono ?_
    rintro e w' ⟨w1, w2, rfl, hb, ht1, hM, ht2⟩
    have hk : Kp S w w' := (((Kp.of_below hb).turned ht1 (.inl h5)).drew).turned ht2 (.inl h5)
    have hcell : ∀ a v, w.cell? a = some v → w'.cell? a = some v := fun a v hc => by
      rw [turned_cell ht2, World.cell?_drew, turned_cell ht1]
      exact pw_cell_below hb hc
    refine ⟨rfl, ?_, hk⟩
    have e1 : renF F (nm s) (nm t) = updF (updF F (nm s) none) (nm t) (some f) := by unfold renF; rw [hF]; simp
    rw [e1]
    refine ⟨m, _, ?_, hM, ?_, .inl h4, .inl h5, by have := hk.size; omega⟩
    · rw [turned_block ht2 hgm]
      show w2.heap[g]? = _
      rw [turned_block ht1 hgm, hb.block g h6]; exact h1
    · exact FilesAt.upd (FilesAt.del (FilesAt.keep h3 (fun a v _ hc => hcell a v hc) more_kp) _) _ ⟨A, c, rfl, q1, q2, q3, C_cells q4 fun ad e a v _ hc => hcell a v hc, fun ad e => .inl (q5 ad e)⟩

theorem nil_C (w : World) : U8.C w none 0 [] := ⟨rfl, by omega, fun h => by omega⟩

set_option maxHeartbeats 400000 in
theorem read_walk (g m n : Nat) (M : Lit → Option Value) (s : ByteArray) (A : Option Addr) (l : List Int) (c : Nat) (f b : Bool) (w : World) (hs : s.size ≤ maxLen)
    (c0 : w.cell? ⟨g, 0, none⟩ = some (.map (some m))) (HM : MapV Try.prog 9 w m n M) (hM : (M (nm s)).getD (.agg #[.slice none 0 0, .bool false]) = .agg #[.slice A l.length c, .bool f]) (hb : (M (nm s)).isSome = b)
    (h : U8.C w A l.length l) (hl : l.length ≤ 65536) :
    Calls Try.prog 24 #[.pointer (some ⟨g, 0, none⟩), .string s] w fun e w' => ∃ v, e = .returned (.tuple #[v, .bool b]) ∧ U8.R 5 w' w.heap.size (fun k => w.heap.size ≤ k) v l ∧ Below w.heap.size w w' := by
  have hkey := key9 hs
  have HM' := hide HM
  have HC := hide (Kd.C_below h (below_alloc (Below.refl _ w) (.cells #[.slice A l.length c, .bool f] 59)))
  have HB := hide ((Below.refl w.heap.size w).alloc (Nat.le_refl _) (.cells #[.slice A l.length c, .bool f] 59))
  have hM' := hide hM
  have hb' := hide hb
  have hl' := hide hl
  clear HM h hM hb hl
  go_enter Try.func24, Try.ntmps24
  go_wp2_with (first
    | (at_lookup; refine op_lookok _ rfl _ _ 55 rfl 9 59 law9 Try.underlying55 _ (zero59 _) m n M rfl HM'.out _ _ rfl hkey ?_; rw [hM'.out, hb'.out])
    | (go_at_call 30; refine (clone_all A l c _ HC.out (by have := hl'.out; omega)).mono ?_; rintro e w1 ⟨v, rfl, hv, hbb⟩; have hv' := hide hv; have hbb' := hide hbb; clear hv hbb))
  go_ret2
  exact ⟨v, rfl, by
    have := hv'.out
    simp only [World.size_alloc] at this
    exact Kd.R_mono (Kd.R_lower this (by omega)) fun k hk => by omega, HB.out.trans (hbb'.out.mono (by simp))⟩

theorem read_any (g n : Nat) (S : Nat → Prop) (F : Lit → Option (List Int × Bool)) (s : ByteArray) (w : World) (H : DiskAt w g S n F) (hs : s.size ≤ maxLen) :
    Calls Try.prog 24 #[.pointer (some ⟨g, 0, none⟩), .string s] w fun e w' => ∃ v, e = .returned (.tuple #[v, .bool (F (nm s)).isSome]) ∧ U8.R 5 w' w.heap.size (fun k => w.heap.size ≤ k) v ((F (nm s)).map (·.1) |>.getD []) ∧ Below w.heap.size w w' := by
  obtain ⟨m, M, h1, h2, h3, h4, h5, h6⟩ := H
  cases hF : F (nm s) with
  | none =>
    exact read_walk g m n M s none [] 0 false false w hs (by simp [World.cell?, h1]) h2 (by rw [(h3 _).1 hF]; rfl) (by rw [(h3 _).1 hF]; rfl) (nil_C w) (by simp)
  | some f =>
    obtain ⟨v, hv, A, c, rfl, q1, q2, q3, q4, q5⟩ := (h3 _).2 f hF
    exact read_walk g m n M s A f.1 c f.2 true w hs (by simp [World.cell?, h1]) h2 (by rw [hv]; rfl) (by rw [hv]; rfl) q4 q3

def users : ByteArray := ⟨#[117, 115, 101, 114, 115]⟩
def tmp : ByteArray := ⟨#[116, 109, 112]⟩

set_option maxHeartbeats 400000 in
theorem load_any (g n : Nat) (S : Nat → Prop) (F : Lit → Option (List Int × Bool)) (w : World) (H : DiskAt w g S n F) :
    Calls Try.prog 15 #[.pointer (some ⟨g, 0, none⟩)] w fun e w' => ∃ v, e = .returned (.tuple #[v, .bool (F (nm users)).isSome]) ∧ U8.R 5 w' w.heap.size (fun k => w.heap.size ≤ k) v ((F (nm users)).map (·.1) |>.getD []) ∧ Below w.heap.size w w' := by
  have HR := hide (read_any g n S F users w H (by decide))
  clear H
  go_enter Try.func15, Try.ntmps15
  go_wp2_with (first | (go_at_call 24; refine HR.out.mono ?_; rintro e w1 ⟨v, rfl, hv, hbb⟩; have hv' := hide hv; have hbb' := hide hbb; clear hv hbb))
  go_ret2
  exact ⟨v, rfl, hv'.out, hbb'.out⟩

set_option maxHeartbeats 400000 in
theorem new_any (w : World) : Calls Try.prog 9 #[] w fun e w' => ∃ g, e = .returned (.pointer (some ⟨g, 0, none⟩)) ∧ DiskAt w' g (fun k => w.heap.size ≤ k ∧ k < w'.heap.size) 0 (fun _ => none) ∧ Below w.heap.size w w' := by
  have hmm := @run_makeMap Try.prog
  go_enter Try.func9, Try.ntmps9
  go_wp2
  go_ret
  refine ⟨_, rfl, ⟨w.heap.size, fun _ => none, ?_, (MapV.made w _ _).same (Below.heap_alloc _ _ _ (by simp)), fun kl => ⟨fun _ => rfl, fun f e => (by cases e)⟩, ?_, ?_, ?_⟩, ((Below.refl _ _).alloc (Nat.le_refl _) _).alloc (by simp) _⟩
  · have := heap_alloc_new (w.alloc (.map #[] 0)) (.cells #[.map (some w.heap.size)] 57)
    simpa using this
  · simp
  · simp; omega
  · simp
end Go.Proofs.Ytdjbapbfbgcfjaa
