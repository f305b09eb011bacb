/- Walks: Save. -/
import Derived.Test.YtdjbapbfbgcfjaaDiskW3
set_option linter.unusedVariables false
set_option linter.unusedSimpArgs false
namespace Go.Proofs.Ytdjbapbfbgcfjaa
open Go.RowKit Go.Maps Go.ChangeMaps Go.MapKept Mv Go.Proofs.YtdjbapbfbgcfjaaW.PrintWords

theorem more_lt {S : Nat → Prop} {w w' : World} (hS : ∀ k, S k → k < w.heap.size) (h : w.heap.size ≤ w'.heap.size) : ∀ k, more S w w' k → k < w'.heap.size := fun k hk => by
  rcases hk with hk | hk
  · have := hS k hk; omega
  · exact hk.2

section
variable (g n b3 b4 : Nat) (S : Nat → Prop) (F : Lit → Option (List Int × Bool)) (A : Option Addr) (l : List Int) (c : Nat) (w : World) (H : DiskAt w g S n F) (hn : n < maxLen)
  (c3 : w.cell? ⟨b3, 0, none⟩ = some (.pointer (some ⟨g, 0, none⟩)))
include H hn c3

set_option maxHeartbeats 400000 in
theorem step1 (c4 : w.cell? ⟨b4, 0, none⟩ = some (.slice A l.length c)) (h : U8.C w A l.length l) (hl : l.length ≤ 65536) :
    Calls Try.prog 27 #[.pointer (some ⟨b3, 0, none⟩), .pointer (some ⟨b4, 0, none⟩)] w fun e w' => e = .returned (.int .i64 0) ∧ DiskAt w' g (more S w w') (n + 1) (updF F (nm tmp) (some (l, false))) ∧ Kp S w w' := by
  have HW := hide (write_any g n S F tmp A l c w H (by decide) h hl hn)
  clear H h hl
  go_enter Try.func27, Try.ntmps27
  go_wp2_with (first | (go_at_call 22; refine HW.out.mono ?_; rintro e w1 ⟨rfl, hd, hk⟩; have hd' := hide hd; have hk' := hide hk; clear hd hk))
  go_ret
  exact ⟨rfl, hd'.out, hk'.out⟩

set_option maxHeartbeats 400000 in
theorem step2 : Calls Try.prog 28 #[.pointer (some ⟨b3, 0, none⟩)] w fun e w' => (∃ x, e = .returned (.int .i64 x)) ∧ DiskAt w' g (more S w w') (n + 1) (syncF F (nm tmp)) ∧ Kp S w w' := by
  have HW := hide (sync_any g n S F tmp w H (by decide) hn)
  clear H
  go_enter Try.func28, Try.ntmps28
  go_wp2_with (first | (go_at_call 11; refine HW.out.mono ?_; generalize (if (F (nm tmp)).isSome = true then (0 : Int) else 2) = r; rintro e w1 ⟨rfl, hd, hk⟩; have hd' := hide hd; have hk' := hide hk; clear hd hk))
  go_ret
  exact ⟨⟨_, rfl⟩, hd'.out, hk'.out⟩

set_option maxHeartbeats 400000 in
theorem step3 : Calls Try.prog 29 #[.pointer (some ⟨b3, 0, none⟩)] w fun e w' => (∃ x, e = .returned (.int .i64 x)) ∧ DiskAt w' g (more S w w') (n + 1) (renF F (nm tmp) (nm users)) ∧ Kp S w w' := by
  have HW := hide (rename_any g n S F tmp users w H (by decide) (by decide) hn)
  clear H
  go_enter Try.func29, Try.ntmps29
  go_wp2_with (first | (go_at_call 13; refine HW.out.mono ?_; generalize (if (F (nm tmp)).isSome = true then (0 : Int) else 2) = r; rintro e w1 ⟨rfl, hd, hk⟩; have hd' := hide hd; have hk' := hide hk; clear hd hk))
  go_ret
  exact ⟨⟨_, rfl⟩, hd'.out, hk'.out⟩
end

set_option maxHeartbeats 1000000 in
theorem save_0 (g n : Nat) (S : Nat → Prop) (F : Lit → Option (List Int × Bool)) (A : Option Addr) (l : List Int) (c : Nat) (w : World) (hl : l.length ≤ 65536) (H : DiskAt w g S n F) :
    Calls Try.prog 19 #[.pointer (some ⟨g, 0, none⟩), .slice A l.length c, .int .i64 0] w fun e w' => e = .returned (.int .i64 30) ∧ Below w.heap.size w w' := by
  have hl' : ¬ ((l.length : Int) > 65536) := by omega
  go_enter Try.func19, Try.ntmps19
  go_wp2
  refine wp_loop_rounds 1 ?_
  rw [rounds_succ]
  go_wp2
  go_ret
  exact ⟨rfl, (((Below.refl _ _).alloc (by simp) _).alloc (by simp) _).alloc (by simp; omega) _⟩

/-- The world in which the steps begin. -/
def W0 (w : World) (g : Nat) (A : Option Addr) (k c : Nat) : World :=
  ((w.alloc (.cells #[.pointer (some ⟨g, 0, none⟩)] 24)).alloc (.cells #[.slice A k c] 30)).alloc (.cells #[.func (.func 27) #[] #[.pointer (some ⟨w.heap.size, 0, none⟩), .pointer (some ⟨w.heap.size + 1, 0, none⟩)], .func (.func 28) #[] #[.pointer (some ⟨w.heap.size, 0, none⟩)], .func (.func 29) #[] #[.pointer (some ⟨w.heap.size, 0, none⟩)]] 65)

structure Cells0 (w : World) (g : Nat) (A : Option Addr) (k c : Nat) (W : World) : Prop where
  c3 : W.cell? ⟨w.heap.size, 0, none⟩ = some (.pointer (some ⟨g, 0, none⟩))
  c4 : W.cell? ⟨w.heap.size + 1, 0, none⟩ = some (.slice A k c)
  f0 : W.cell? ⟨w.heap.size + 1 + 1, 0, none⟩ = some (.func (.func 27) #[] #[.pointer (some ⟨w.heap.size, 0, none⟩), .pointer (some ⟨w.heap.size + 1, 0, none⟩)])
  f1 : W.cell? ⟨w.heap.size + 1 + 1, 1, none⟩ = some (.func (.func 28) #[] #[.pointer (some ⟨w.heap.size, 0, none⟩)])
  f2 : W.cell? ⟨w.heap.size + 1 + 1, 2, none⟩ = some (.func (.func 29) #[] #[.pointer (some ⟨w.heap.size, 0, none⟩)])

theorem W0_cells (w : World) (g : Nat) (A : Option Addr) (k c : Nat) : Cells0 w g A k c (W0 w g A k c) := by
  unfold W0
  constructor
  · rw [World.cell?_alloc_lt _ _ _ (by simp; omega), World.cell?_alloc_lt _ _ _ (by simp)]
    simp
  · rw [World.cell?_alloc_lt _ _ _ (by simp)]
    have e : (w.alloc (.cells #[.pointer (some ⟨g, 0, none⟩)] 24)).heap.size = w.heap.size + 1 := World.size_alloc _ _
    rw [← e, World.cell?_alloc_new]
    rfl
  all_goals
    have e : ((w.alloc (.cells #[.pointer (some ⟨g, 0, none⟩)] 24)).alloc (.cells #[.slice A k c] 30)).heap.size = w.heap.size + 1 + 1 := by rw [World.size_alloc, World.size_alloc]
    rw [← e, World.cell?_alloc_new]
    rfl

theorem W0_below (w : World) (g : Nat) (A : Option Addr) (k c : Nat) : Below w.heap.size w (W0 w g A k c) := (((Below.refl _ _).alloc (by simp) _).alloc (by simp) _).alloc (by simp; omega) _
theorem W0_size (w : World) (g : Nat) (A : Option Addr) (k c : Nat) : (W0 w g A k c).heap.size = w.heap.size + 3 := by simp [W0]

theorem Cells0.kp {w : World} {g : Nat} {A : Option Addr} {k c : Nat} {S : Nat → Prop} {W W1 : World} (h : Cells0 w g A k c W) (hk : Kp S W W1) (hS : ∀ i, S i → i < w.heap.size ∨ w.heap.size + 3 ≤ i) : Cells0 w g A k c W1 :=
  ⟨hk.cell h.c3 fun hs => by have := hS _ hs; simp at this; omega, hk.cell h.c4 fun hs => by have := hS _ hs; simp at this; omega, hk.cell h.f0 fun hs => by have := hS _ hs; simp at this; omega,
    hk.cell h.f1 fun hs => by have := hS _ hs; simp at this; omega, hk.cell h.f2 fun hs => by have := hS _ hs; simp at this; omega⟩

theorem more_hole {w W W1 : World} {S : Nat → Prop} (h : ∀ i, S i → i < w.heap.size ∨ w.heap.size + 3 ≤ i) (hW : w.heap.size + 3 ≤ W.heap.size) : ∀ i, more S W W1 i → i < w.heap.size ∨ w.heap.size + 3 ≤ i := fun i hi => by
  rcases hi with hi | hi
  · exact h i hi
  · omega

/-- Which files there are behind so many steps. -/
noncomputable def saveF (F : Lit → Option (List Int × Bool)) (l : List Int) : Nat → Lit → Option (List Int × Bool)
  | 0 => F
  | 1 => updF F (nm tmp) (some (l, false))
  | 2 => syncF (updF F (nm tmp) (some (l, false))) (nm tmp)
  | _ => renF (syncF (updF F (nm tmp) (some (l, false))) (nm tmp)) (nm tmp) (nm users)

/-- What the disk is in the middle. -/
structure Mid (g n : Nat) (S : Nat → Prop) (A : Option Addr) (k c : Nat) (w W : World) (F : Lit → Option (List Int × Bool)) : Prop where
  cells : Cells0 w g A k c W
  disk : ∃ T, DiskAt W g T n F ∧ (∀ i, T i → (S i ∨ w.heap.size + 3 ≤ i) ∧ i < W.heap.size) 
  kp : Kp S w W
  sz : w.heap.size + 3 ≤ W.heap.size

theorem Mid.start {g n : Nat} {S : Nat → Prop} {F : Lit → Option (List Int × Bool)} {w : World} (A : Option Addr) (k c : Nat) (H : DiskAt w g S n F) (hS : ∀ k, S k → k < w.heap.size) : Mid g n S A k c w (W0 w g A k c) F :=
  ⟨W0_cells w g A k c, ⟨S, H.below (W0_below w g A k c) hS, fun i hi => ⟨.inl hi, by rw [W0_size]; have := hS i hi; omega⟩⟩, Kp.of_below (W0_below w g A k c), by rw [W0_size]; exact Nat.le_refl _⟩

theorem Mid.next {g n : Nat} {S : Nat → Prop} {F F' : Lit → Option (List Int × Bool)} {A : Option Addr} {k c : Nat} {w W W' : World} (hS : ∀ k, S k → k < w.heap.size) {T : Nat → Prop} (h : Mid g n S A k c w W F) (hT : ∀ i, T i → (S i ∨ w.heap.size + 3 ≤ i) ∧ i < W.heap.size) (hd : DiskAt W' g (more T W W') (n + 1) F') (hk : Kp T W W') : Mid g (n + 1) S A k c w W' F' := by
  have hs := hk.size
  have hz := h.sz
  refine ⟨h.cells.kp hk fun i hi => ?_, ⟨_, hd, fun i hi => ?_⟩, h.kp.trans' hk fun i hi => ?_, by omega⟩
  · rcases (hT i hi).1 with h1 | h1
    · exact .inl (hS i h1)
    · exact .inr h1
  · rcases hi with hi | hi
    · exact ⟨(hT i hi).1, by have := (hT i hi).2; omega⟩
    · exact ⟨.inr (by omega), hi.2⟩
  · rcases (hT i hi).1 with h1 | h1
    · exact .inl h1
    · exact .inr (by omega)

theorem Mid.fin {g n : Nat} {S : Nat → Prop} {F : Lit → Option (List Int × Bool)} {A : Option Addr} {k c : Nat} {w W : World} (h : Mid g n S A k c w W F) : DiskAt W g (more S w W) n F ∧ Kp S w W := by
  obtain ⟨T, hd, hT⟩ := h.disk
  refine ⟨hd.keep (fun _ _ _ => rfl) (Nat.le_refl _) fun i hi => ?_, h.kp⟩
  obtain ⟨h1, h2⟩ := hT i hi
  rcases h1 with h1 | h1
  · exact .inl h1
  · exact .inr ⟨by omega, h2⟩

section
variable (g n : Nat) (S : Nat → Prop) (F : Lit → Option (List Int × Bool)) (A : Option Addr) (l : List Int) (c : Nat) (w : World) (hl : l.length ≤ 65536) (H : DiskAt w g S n F) (hS : ∀ k, S k → k < w.heap.size) (hn : n + 2 < maxLen) (h : U8.C w A l.length l)
include hl H hS hn h

set_option maxHeartbeats 1000000 in
theorem save_1 : Calls Try.prog 19 #[.pointer (some ⟨g, 0, none⟩), .slice A l.length c, .int .i64 1] w fun e w' => e = .returned (.int .i64 30) ∧ Mid g (n + 1) S A l.length c w w' (saveF F l 1) := by
  have hl' : ¬ ((l.length : Int) > 65536) := by omega
  have M0 := hide (Mid.start A l.length c H hS)
  have Q := hide (And.intro (Kd.C_below h (W0_below w g A l.length c)) (And.intro trivial (And.intro hl hS)))
  clear H h hS hl
  go_enter Try.func19, Try.ntmps19
  go_wp2
  rw [← W0]
  generalize W0 w g A l.length c = W at M0 Q ⊢
  have f0 := M0.out.cells.f0
  refine wp_loop_rounds 2 ?_
  rw [rounds_succ]
  go_wp2_with (first | (go_at_call 27
                        obtain ⟨T, hd, hT⟩ := M0.out.disk
                        refine (step1 g n _ _ T F A l c W hd (by omega) M0.out.cells.c3 M0.out.cells.c4 Q.out.1 Q.out.2.2.1).mono ?_
                        rintro e w1 ⟨rfl, hd1, hk1⟩
                        have M1 := hide (M0.out.next Q.out.2.2.2 hT hd1 hk1)
                        clear hd hT hd1 hk1 f0
                        have f1 := M1.out.cells.f1))
  rw [rounds_succ]
  go_wp2
  go_ret
  exact ⟨rfl, M1.out⟩

set_option maxHeartbeats 1000000 in
theorem save_2 : Calls Try.prog 19 #[.pointer (some ⟨g, 0, none⟩), .slice A l.length c, .int .i64 2] w fun e w' => e = .returned (.int .i64 30) ∧ Mid g (n + 2) S A l.length c w w' (saveF F l 2) := by
  have hl' : ¬ ((l.length : Int) > 65536) := by omega
  have M0 := hide (Mid.start A l.length c H hS)
  have Q := hide (And.intro (Kd.C_below h (W0_below w g A l.length c)) (And.intro trivial (And.intro hl hS)))
  clear H h hS hl
  go_enter Try.func19, Try.ntmps19
  go_wp2
  rw [← W0]
  generalize W0 w g A l.length c = W at M0 Q ⊢
  have f0 := M0.out.cells.f0
  refine wp_loop_rounds 3 ?_
  rw [rounds_succ]
  go_wp2_with (first | (go_at_call 27
                        obtain ⟨T, hd, hT⟩ := M0.out.disk
                        refine (step1 g n _ _ T F A l c W hd (by omega) M0.out.cells.c3 M0.out.cells.c4 Q.out.1 Q.out.2.2.1).mono ?_
                        rintro e w1 ⟨rfl, hd1, hk1⟩
                        have M1 := hide (M0.out.next Q.out.2.2.2 hT hd1 hk1)
                        clear hd hT hd1 hk1 f0
                        have f1 := M1.out.cells.f1))
  rw [rounds_succ]
  go_wp2_with (first | (go_at_call 28
                        obtain ⟨T, hd, hT⟩ := M1.out.disk
                        refine (step2 g _ _ T _ w1 hd (by omega) M1.out.cells.c3).mono ?_
                        rintro e w2 ⟨⟨x, rfl⟩, hd1, hk1⟩
                        have M2 := hide (M1.out.next Q.out.2.2.2 hT hd1 hk1)
                        clear hd hT hd1 hk1 f1
                        have f2 := M2.out.cells.f2))
  rw [rounds_succ]
  go_wp2
  go_ret
  exact ⟨rfl, M2.out⟩

set_option maxHeartbeats 1000000 in
theorem save_3 (stop : Int) (h0 : ((0 : Int) == stop) = false) (h1 : ((1 : Int) == stop) = false) (h2 : ((2 : Int) == stop) = false) : Calls Try.prog 19 #[.pointer (some ⟨g, 0, none⟩), .slice A l.length c, .int .i64 stop] w fun e w' => e = .returned (.int .i64 0) ∧ Mid g (n + 3) S A l.length c w w' (saveF F l 3) := by
  have hl' : ¬ ((l.length : Int) > 65536) := by omega
  have M0 := hide (Mid.start A l.length c H hS)
  have Q := hide (And.intro (Kd.C_below h (W0_below w g A l.length c)) (And.intro trivial (And.intro hl hS)))
  clear H h hS hl
  go_enter Try.func19, Try.ntmps19
  go_wp2
  rw [← W0]
  generalize W0 w g A l.length c = W at M0 Q ⊢
  have f0 := M0.out.cells.f0
  refine wp_loop_rounds 4 ?_
  rw [rounds_succ]
  go_wp2_with (first | (go_at_call 27
                        obtain ⟨T, hd, hT⟩ := M0.out.disk
                        refine (step1 g n _ _ T F A l c W hd (by omega) M0.out.cells.c3 M0.out.cells.c4 Q.out.1 Q.out.2.2.1).mono ?_
                        rintro e w1 ⟨rfl, hd1, hk1⟩
                        have M1 := hide (M0.out.next Q.out.2.2.2 hT hd1 hk1)
                        clear hd hT hd1 hk1 f0
                        have f1 := M1.out.cells.f1))
  rw [rounds_succ]
  go_wp2_with (first | (go_at_call 28
                        obtain ⟨T, hd, hT⟩ := M1.out.disk
                        refine (step2 g _ _ T _ w1 hd (by omega) M1.out.cells.c3).mono ?_
                        rintro e w2 ⟨⟨x, rfl⟩, hd1, hk1⟩
                        have M2 := hide (M1.out.next Q.out.2.2.2 hT hd1 hk1)
                        clear hd hT hd1 hk1 f1
                        have f2 := M2.out.cells.f2))
  rw [rounds_succ]
  go_wp2_with (first | (go_at_call 29
                        obtain ⟨T, hd, hT⟩ := M2.out.disk
                        refine (step3 g _ _ T _ w2 hd (by omega) M2.out.cells.c3).mono ?_
                        rintro e w3 ⟨⟨x, rfl⟩, hd1, hk1⟩
                        have M3 := hide (M2.out.next Q.out.2.2.2 hT hd1 hk1)
                        clear hd hT hd1 hk1 f2))
  rw [rounds_succ]
  go_wp2
  go_ret
  exact ⟨rfl, M3.out⟩
end

/-- How many steps are done. -/
def steps (stop : Int) : Nat := if 0 ≤ stop ∧ stop < 3 then stop.toNat else 3

theorem save_any (g n : Nat) (S : Nat → Prop) (F : Lit → Option (List Int × Bool)) (A : Option Addr) (l : List Int) (c : Nat) (stop : Int) (w : World) (hl : l.length ≤ 65536) (H : DiskAt w g S n F) (hS : ∀ k, S k → k < w.heap.size) (hn : n + 2 < maxLen) (h : U8.C w A l.length l) :
    Calls Try.prog 19 #[.pointer (some ⟨g, 0, none⟩), .slice A l.length c, .int .i64 stop] w fun e w' => e = .returned (.int .i64 (if steps stop < 3 then 30 else 0)) ∧ DiskAt w' g (more S w w') (n + 3) (saveF F l (steps stop)) ∧ Kp S w w' := by
  by_cases h0 : stop = 0
  · subst h0
    refine (save_0 g n S F A l c w hl H).mono ?_
    rintro e w' ⟨rfl, hb⟩
    exact ⟨rfl, (H.keep (fun k hk hlt => hb.block k hlt) hb.size fun k hk => .inl hk).mono (by omega), Kp.of_below hb⟩
  · by_cases h1 : stop = 1
    · subst h1
      refine (save_1 g n S F A l c w hl H hS hn h).mono ?_
      rintro e w' ⟨rfl, hm⟩
      exact ⟨rfl, hm.fin.1.mono (by omega), hm.fin.2⟩
    · by_cases h2 : stop = 2
      · subst h2
        refine (save_2 g n S F A l c w hl H hS hn h).mono ?_
        rintro e w' ⟨rfl, hm⟩
        exact ⟨rfl, hm.fin.1.mono (by omega), hm.fin.2⟩
      · refine (save_3 g n S F A l c w hl H hS hn h stop (by simpa using fun e => h0 e.symm) (by simpa using fun e => h1 e.symm) (by simpa using fun e => h2 e.symm)).mono ?_
        have e3 : steps stop = 3 := by unfold steps; split <;> omega
        rintro e w' ⟨rfl, hm⟩
        rw [e3]
        exact ⟨rfl, hm.fin.1, hm.fin.2⟩
end Go.Proofs.Ytdjbapbfbgcfjaa
