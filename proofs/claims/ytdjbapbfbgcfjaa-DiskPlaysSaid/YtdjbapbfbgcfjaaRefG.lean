/- The document's disk by its map: what each call makes of it, and tells. -/
import Derived.Test.YtdjbapbfbgcfjaaRefF
set_option linter.unusedVariables false
set_option linter.unusedSimpArgs false
namespace Go.Proofs.Ytdjbapbfbgcfjaa
open Go.RowKit Go.Maps Go.ChangeMaps Go.MapKept Mv Go.Proofs.YtdjbapbfbgcfjaaW.PrintWords

/-- The document's disk in memory, that says what F says; m files at most. -/
def RefS (w : World) (r : Nat) (T : Nat → Prop) (F : Lit → Option (List Int × Bool)) (m : Nat) : Prop := ∃ fs, RefIn w r T fs ∧ Sim F fs ∧ fs.length ≤ m
theorem RefS.lt {w : World} {r m : Nat} {T : Nat → Prop} {F : Lit → Option (List Int × Bool)} (h : RefS w r T F m) : ∀ k, T k → k < w.heap.size := by
  obtain ⟨fs, h1, _⟩ := h
  exact h1.2
theorem RefS.kp {w w' : World} {r m : Nat} {S T : Nat → Prop} {F : Lit → Option (List Int × Bool)} (h : RefS w r T F m) (hk : Kp S w w') (hd : ∀ k, T k → ¬ S k) : RefS w' r T F m := by
  obtain ⟨fs, h1, h2⟩ := h
  exact ⟨fs, h1.kp hk hd, h2⟩
theorem RefS.mono {w : World} {r m : Nat} {T T' : Nat → Prop} {F : Lit → Option (List Int × Bool)} (h : RefS w r T F m) (hT : ∀ k, T k → T' k) (hT' : ∀ k, T' k → k < w.heap.size) : RefS w r T' F m := by
  obtain ⟨fs, h1, h2⟩ := h
  exact ⟨fs, h1.mono hT hT', h2⟩
theorem RefS.more' {w w' : World} {r m : Nat} {T : Nat → Prop} {F : Lit → Option (List Int × Bool)} (hT : ∀ k, T k → k < w.heap.size) (hk : Kp T w w') (h : RefS w' r T F m) : RefS w' r (more T w w') F m := h.mono (fun _ h => .inl h) (more_lt hT hk.size)
theorem RefS.steps {w w1 w2 : World} {r m : Nat} {T : Nat → Prop} {F : Lit → Option (List Int × Bool)} (hT : ∀ k, T k → k < w.heap.size) (hk : Kp T w w1) (hk2 : Kp (more T w w1) w1 w2) (h : RefS w2 r (more (more T w w1) w1 w2) F m) : Kp T w w2 ∧ RefS w2 r (more T w w2) F m :=
  ⟨hk.trans' hk2 fun i h => h.imp id (·.1), h.mono (more_more hk.size hk2.size) (more_lt hT (Nat.le_trans hk.size hk2.size))⟩
theorem push_len (fs : List Fl) (P : Fl → Bool) (f : Fl) {m : Nat} (h : fs.length ≤ m) : (fs.filter P ++ [f]).length ≤ m + 1 := by
  rw [List.length_append, List.length_singleton]
  have := List.length_filter_le P fs
  omega

section
variable (r : Nat) (T : Nat → Prop) (F : Lit → Option (List Int × Bool)) (m : Nat) (w : World) (H : RefS w r T F m) (hm : m < 1000000)
include H hm
theorem rwrite_any (s : ByteArray) (A : Option Addr) (b : List Int) (c : Nat) (h : ∀ w', Kp T w w' → U8.C w' A b.length b) (hb : b.length ≤ 65536) :
    Calls Try.prog 23 #[.pointer (some ⟨r, 0, none⟩), .string s, .slice A b.length c] w fun e w' => e = .returned (.int .i64 0) ∧ RefS w' r (more T w w') (updF F (nm s) (some (b, false))) (m + 1) ∧ Kp T w w' := by
  obtain ⟨fs, h1, h2, h3⟩ := H
  exact (rwrite_in r T fs s A b c w h1 (by omega) h hb).mono fun e w' ⟨a, k, i⟩ => ⟨a, ⟨_, i, h2.write s b, push_len _ _ _ h3⟩, k⟩
theorem rsync_any (s : ByteArray) :
    Calls Try.prog 12 #[.pointer (some ⟨r, 0, none⟩), .string s] w fun e w' => e = .returned (.int .i64 (if (F (nm s)).isSome = true then 0 else 2)) ∧ RefS w' r (more T w w') (syncF F (nm s)) m ∧ Kp T w w' := by
  obtain ⟨fs, h1, h2, h3⟩ := H
  refine (rsync_in r T fs s w h1 (by omega)).mono fun e w' ⟨fs', k, i, h⟩ => ?_
  rcases h with ⟨j, f, hf, rfl, rfl⟩ | ⟨hn, rfl, rfl⟩
  · exact ⟨by rw [(h2 s).1 j f hf]; rfl, RefS.more' h1.2 k ⟨_, i, h2.set hf, by simpa using h3⟩, k⟩
  · have h4 := (h2 s).2 hn
    refine ⟨by rw [h4]; rfl, RefS.more' h1.2 k ⟨_, i, ?_, h3⟩, k⟩
    unfold syncF
    rw [h4, Option.map_none, updF_self h4]
    exact h2
theorem rrename_any (s t : ByteArray) :
    Calls Try.prog 14 #[.pointer (some ⟨r, 0, none⟩), .string s, .string t] w fun e w' => e = .returned (.int .i64 (if (F (nm s)).isSome = true then 0 else 2)) ∧ RefS w' r (more T w w') (renF F (nm s) (nm t)) (m + 1) ∧ Kp T w w' := by
  obtain ⟨fs, h1, h2, h3⟩ := H
  refine (rren_in r T fs s t w h1 (by omega)).mono fun e w' ⟨fs', k, i, h⟩ => ?_
  rcases h with ⟨j, f, hf, rfl, rfl⟩ | ⟨hn, rfl, rfl⟩
  · exact ⟨by rw [(h2 s).1 j f hf]; rfl, ⟨_, i, h2.rename s t hf, push_len _ _ _ (Nat.le_trans (List.length_filter_le _ _) h3)⟩, k⟩
  · have h4 := (h2 s).2 hn
    refine ⟨by rw [h4]; rfl, ⟨_, i, ?_, by omega⟩, k⟩
    unfold renF
    rw [h4, if_neg (by simp)]
    exact h2
theorem rread_any (s : ByteArray) :
    Calls Try.prog 16 #[.pointer (some ⟨r, 0, none⟩), .string s] w fun e w' => ∃ A c, e = .returned (.tuple #[.slice A (((F (nm s)).map (·.1)).getD []).length c, .bool (F (nm s)).isSome]) ∧ U8.C w' A (((F (nm s)).map (·.1)).getD []).length (((F (nm s)).map (·.1)).getD []) ∧ Below w.heap.size w w' := by
  obtain ⟨fs, h1, h2, h3⟩ := H
  refine (rread_in r T fs s w h1 (by omega)).mono fun e w' ⟨hb, h⟩ => ?_
  rcases h with ⟨j, f, A, c, hf, rfl, hc⟩ | ⟨hn, rfl⟩
  · rw [(h2 s).1 j f hf]
    exact ⟨A, c, rfl, hc, hb⟩
  · rw [(h2 s).2 hn]
    exact ⟨none, 0, rfl, C_nil _ _, hb⟩
theorem rcrash_any (keep : Int) (hk0 : -9223372036854775808 ≤ keep) (hk1 : keep ≤ 9223372036854775807) :
    Calls Try.prog 18 #[.pointer (some ⟨r, 0, none⟩), .int .i64 keep] w fun e w' => e = .returned (.tuple #[]) ∧ RefS w' r (more T w w') (crashF keep F) m ∧ Kp T w w' := by
  obtain ⟨fs, h1, h2, h3⟩ := H
  exact (rcrash_in r T fs keep w h1 (by omega) hk0 hk1).mono fun e w' ⟨a, k, i⟩ => ⟨a, RefS.more' h1.2 k ⟨_, i, h2.crash keep, by simpa using h3⟩, k⟩
end

set_option maxHeartbeats 1000000 in
theorem rsave_any (r : Nat) (T : Nat → Prop) (F : Lit → Option (List Int × Bool)) (m : Nat) (w : World) (H : RefS w r T F m) (hm : m + 2 < 1000000) (A : Option Addr) (b : List Int) (c : Nat) (stop : Int) (h : ∀ w', Kp T w w' → U8.C w' A b.length b) (hb : b.length ≤ 65536) :
    Calls Try.prog 21 #[.pointer (some ⟨r, 0, none⟩), .slice A b.length c, .int .i64 stop] w fun e w' => e = .returned (.int .i64 (if Go.Proofs.Ytdjbapbfbgcfjaa.steps stop < 3 then 30 else 0)) ∧ RefS w' r (more T w w') (saveF F b (Go.Proofs.Ytdjbapbfbgcfjaa.steps stop)) (m + 2) ∧ Kp T w w' := by
  have HH := hide H
  have HB := hide h
  clear h H
  have hT := HH.out.lt
  by_cases hst : 0 ≤ stop ∧ stop < 3
  · have h3 : stop = 0 ∨ stop = 1 ∨ stop = 2 := by omega
    rcases h3 with rfl | rfl | rfl
    · go_enter Try.func21, Try.ntmps21
      go_wp2
      go_ret
      refine ⟨rfl, ?_, Kp.refl _ _⟩
      obtain ⟨fs, h1, h2, h4⟩ := HH.out
      exact RefS.more' hT (Kp.refl _ _) ⟨fs, h1, h2, by omega⟩
    · go_enter Try.func21, Try.ntmps21
      go_wp2_with fail
      refine (rwrite_any r T F m w HH.out (by omega) tmp A b c HB.out hb).mono ?_
      rintro e w1 ⟨rfl, h1, k1⟩
      have H1 := hide h1
      have K1 := hide k1
      clear h1 k1
      go_wp2
      go_ret
      obtain ⟨fs, q1, q2, q3⟩ := H1.out
      exact ⟨rfl, ⟨fs, q1, q2, by omega⟩, K1.out⟩
    · go_enter Try.func21, Try.ntmps21
      go_wp2_with fail
      refine (rwrite_any r T F m w HH.out (by omega) tmp A b c HB.out hb).mono ?_
      rintro e w1 ⟨rfl, h1, k1⟩
      have H1 := hide h1
      have K1 := hide k1
      clear h1 k1
      go_wp2_with fail
      refine (rsync_any r _ _ _ w1 H1.out (by omega) tmp).mono ?_
      rintro e w2 ⟨rfl, h2, k2⟩
      have H2 := hide (RefS.steps hT K1.out k2 h2)
      clear h2 k2
      generalize (if (updF F (nm tmp) (some (b, false)) (nm tmp)).isSome = true then (0 : Int) else 2) = q
      go_wp2
      go_ret
      obtain ⟨fs, q1, q2, q3⟩ := H2.out.2
      exact ⟨rfl, ⟨fs, q1, q2, by omega⟩, H2.out.1⟩
  · have hs3 : Go.Proofs.Ytdjbapbfbgcfjaa.steps stop = 3 := by unfold Go.Proofs.Ytdjbapbfbgcfjaa.steps; rw [if_neg hst]
    rw [hs3]
    have hsp : stop < 0 ∨ 3 ≤ stop := by omega
    clear hs3 hst
    rcases hsp with hsp | hsp
    all_goals
      go_enter Try.func21, Try.ntmps21
      go_wp2_with fail
      refine (rwrite_any r T F m w HH.out (by omega) tmp A b c HB.out hb).mono ?_
      rintro e w1 ⟨rfl, h1, k1⟩
      have H1 := hide h1
      have K1 := hide k1
      clear h1 k1
      go_wp2_with fail
      refine (rsync_any r _ _ _ w1 H1.out (by omega) tmp).mono ?_
      rintro e w2 ⟨rfl, h2, k2⟩
      have H2 := hide (RefS.steps hT K1.out k2 h2)
      clear h2 k2
      generalize (if (updF F (nm tmp) (some (b, false)) (nm tmp)).isSome = true then (0 : Int) else 2) = q
      go_wp2_with fail
      refine (rrename_any r _ _ _ w2 H2.out.2 (by omega) tmp users).mono ?_
      rintro e w3 ⟨rfl, h3, k3⟩
      have H3 := hide (RefS.steps hT H2.out.1 k3 h3)
      clear h3 k3
      rw [show (if (syncF (updF F (nm tmp) (some (b, false))) (nm tmp) (nm tmp)).isSome = true then (0 : Int) else 2) = 0 by unfold syncF; rw [updF_same, updF_same]; rfl]
      go_wp2
      go_ret
      obtain ⟨fs, q1, q2, q3⟩ := H3.out.2
      exact ⟨rfl, ⟨fs, q1, q2, by omega⟩, H3.out.1⟩
end Go.Proofs.Ytdjbapbfbgcfjaa
