/- Both disks side by side. -/
import Derived.Test.YtdjbapbfbgcfjaaRefG
set_option linter.unusedVariables false
set_option linter.unusedSimpArgs false
set_option linter.unusedSectionVars false
namespace Go.Proofs.Ytdjbapbfbgcfjaa
open Go.RowKit Go.Maps Go.ChangeMaps Go.MapKept Mv Go.Proofs.YtdjbapbfbgcfjaaW.PrintWords

/-- The program's disk at g, the document's at r, apart; both made by the call (from w1's end on); what P names is none of theirs, and as it was in wp. -/
def Two (P : Nat → Prop) (wp w1 w : World) (g r n m : Nat) (F G : Lit → Option (List Int × Bool)) : Prop :=
  ∃ S T, Own w1 w g n F S ∧ RefS w r T G m ∧ (∀ k, S k → ¬ T k) ∧ (∀ k, T k → w1.heap.size ≤ k) ∧ ∀ k, P k → ¬ S k ∧ ¬ T k ∧ k < w.heap.size ∧ w.heap[k]? = wp.heap[k]?
theorem Two.bel {P : Nat → Prop} {wp w1 w : World} {g r n m : Nat} {F G : Lit → Option (List Int × Bool)} (h : Two P wp w1 w g r n m F G) : Below w1.heap.size w1 w := by
  obtain ⟨S, T, h1, _⟩ := h
  exact h1.bel
theorem Two.kept {P : Nat → Prop} {wp w1 w : World} {g r n m : Nat} {F G : Lit → Option (List Int × Bool)} (h : Two P wp w1 w g r n m F G) {a : Addr} {v : Value} (ha : P a.block) (hc : wp.cell? a = some v) : w.cell? a = some v := by
  obtain ⟨S, T, _, _, _, _, h5⟩ := h
  exact (World.cell?_of_block (h5 _ ha).2.2.2).trans hc
theorem Two.below {P : Nat → Prop} {wp w1 w w' : World} {g r n m : Nat} {F G : Lit → Option (List Int × Bool)} (h : Two P wp w1 w g r n m F G) (hb : Below w.heap.size w w') : Two P wp w1 w' g r n m F G := by
  obtain ⟨S, T, h1, h2, h3, h4, h5⟩ := h
  exact ⟨S, T, h1.below hb, h2.kp (S := fun _ => False) (Kp.of_below hb) (fun _ _ h => h), h3, h4, fun k hk => by
    have := h5 k hk
    exact ⟨this.1, this.2.1, by have := hb.size; omega, (hb.block k this.2.2.1).trans this.2.2.2⟩⟩
theorem Two.drewN {P : Nat → Prop} {wp w1 w : World} {g r n m : Nat} {F G : Lit → Option (List Int × Bool)} (h : Two P wp w1 w g r n m F G) (k : Nat) : Two P wp w1 (w.drewN k) g r n m F G := h.below ⟨rfl, rfl, rfl, Nat.le_refl _, fun _ _ => rfl⟩
theorem Two.forget {P : Nat → Prop} {wp w1 w : World} {g r n m : Nat} {F G : Lit → Option (List Int × Bool)} (h : Two P wp w1 w g r n m F G) : Two (fun _ => False) w1 w1 w g r n m F G := by
  obtain ⟨S, T, h1, h2, h3, h4, h5⟩ := h
  exact ⟨S, T, h1, h2, h3, h4, fun k hk => hk.elim⟩
/-- A new block is none of theirs. -/
theorem Two.guard {P : Nat → Prop} {wp w1 w : World} {g r n m : Nat} {F G : Lit → Option (List Int × Bool)} (h : Two P wp w1 w g r n m F G) (o : Obj) : Two (fun k => k = w.heap.size) (w.alloc o) w1 (w.alloc o) g r n m F G := by
  obtain ⟨S, T, h1, h2, h3, h4, h5⟩ := h.below ((Below.refl _ w).alloc (Nat.le_refl _) o)
  obtain ⟨S', T', q1, q2, q3, q4, q5⟩ := h
  exact ⟨S', T', q1.alloc o, q2.kp (S := fun _ => False) ((Kp.refl _ w).alloc o) (fun _ _ h => h), q3, q4, fun k hk => by
    subst hk
    exact ⟨fun hs => by have := q1.disk.2 _ hs; omega, fun ht => by have := q2.lt _ ht; omega, by simp, rfl⟩⟩
theorem Two.mono {P : Nat → Prop} {wp w1 w : World} {g r n m n' m' : Nat} {F G : Lit → Option (List Int × Bool)} (h : Two P wp w1 w g r n m F G) (hn : n ≤ n') (hm : m ≤ m') : Two P wp w1 w g r n' m' F G := by
  obtain ⟨S, T, h1, ⟨fs, h2, h6, h7⟩, h3, h4, h5⟩ := h
  exact ⟨S, T, ⟨⟨h1.disk.1.mono hn, h1.disk.2⟩, h1.low, h1.bel⟩, ⟨fs, h2, h6, by omega⟩, h3, h4, h5⟩

theorem Two.disk {P : Nat → Prop} {wp w1 w w' : World} {g r n n' m : Nat} {F F' G : Lit → Option (List Int × Bool)} {S T : Nat → Prop} (h1 : Own w1 w g n F S) (h2 : RefS w r T G m) (h3 : ∀ k, S k → ¬ T k) (h4 : ∀ k, T k → w1.heap.size ≤ k) (h5 : ∀ k, P k → ¬ S k ∧ ¬ T k ∧ k < w.heap.size ∧ w.heap[k]? = wp.heap[k]?)
    (hd : DiskAt w' g (more S w w') n' F') (hk : Kp S w w') : Two P wp w1 w' g r n' m F' G :=
  ⟨_, T, h1.step hd hk, h2.kp hk (fun k ht hs => h3 k hs ht), fun k hs ht => by
    rcases hs with hs | hs
    · exact h3 k hs ht
    · have := h2.lt k ht; omega, h4, fun k hp => by
    have := h5 k hp
    exact ⟨fun hs => by rcases hs with hs | hs; exact this.1 hs; omega, this.2.1, by have := hk.size; omega, (hk.block k this.2.2.1 this.1).trans this.2.2.2⟩⟩
theorem Two.ref {P : Nat → Prop} {wp w1 w w' : World} {g r n m m' : Nat} {F G G' : Lit → Option (List Int × Bool)} {S T : Nat → Prop} (h1 : Own w1 w g n F S) (h2 : RefS w r T G m) (h3 : ∀ k, S k → ¬ T k) (h4 : ∀ k, T k → w1.heap.size ≤ k) (h5 : ∀ k, P k → ¬ S k ∧ ¬ T k ∧ k < w.heap.size ∧ w.heap[k]? = wp.heap[k]?)
    (hd : RefS w' r (more T w w') G' m') (hk : Kp T w w') : Two P wp w1 w' g r n m' F G' :=
  ⟨S, _, h1.far hk h3 h4, hd, fun k hs ht => by
    rcases ht with ht | ht
    · exact h3 k hs ht
    · have := h1.disk.2 k hs; omega, more_ge h4 h1.bel.size, fun k hp => by
    have := h5 k hp
    exact ⟨this.1, fun hs => by rcases hs with hs | hs; exact this.2.1 hs; omega, by have := hk.size; omega, (hk.block k this.2.2.1 this.2.1).trans this.2.2.2⟩⟩
theorem Two.start {w1 w : World} {g : Nat} {S : Nat → Prop} (h : Own w1 w g 0 (fun _ => none) S) : Two (fun _ => False) w1 w1 (w.alloc (.cells #[.slice none 0 0] 29)) g w.heap.size 0 0 (fun _ => none) (fun _ => none) := by
  refine ⟨S, fun k => k = w.heap.size, h.alloc _, ⟨[], ⟨⟨.slice none 0 0, [], ⟨heap_alloc_new w _, rfl, Kd.R_nil _ _ _ _ _, fun k e => by simp [Value.ownBlock] at e, rfl, fun i x f hx => by simp at hx⟩⟩, fun k e => by simp [e]⟩, Sim.start, Nat.le_refl _⟩, fun k hs e => ?_, fun k e => ?_, fun k h => h.elim⟩
  · have := h.disk.2 k hs; omega
  · have := h.bel.size; omega

section
variable {P : Nat → Prop} {wp w0 w1 w : World} {g r n m : Nat} {F G : Lit → Option (List Int × Bool)} (H : Two P wp w1 w g r n m F G) (hn : n + 2 < maxLen) (hm : m + 2 < 1000000) (hw : Below w0.heap.size w0 w1)
include H hn hm hw
theorem t_write (s : ByteArray) (A : Option Addr) (l : List Int) (c : Nat) (hs : s.size ≤ maxLen) (h : U8.C w0 A l.length l) (hl : l.length ≤ 65536) :
    Calls Try.prog 22 #[.pointer (some ⟨g, 0, none⟩), .string s, .slice A l.length c] w fun e w' => e = .returned (.int .i64 0) ∧ Two P wp w1 w' g r (n + 1) m (updF F (nm s) (some (l, false))) G := by
  obtain ⟨S, T, h1, h2, h3, h4, h5⟩ := H
  exact (write_any g n S F s A l c w h1.disk.1 hs (C_old h (hw.trans (h1.bel.mono hw.size))) hl (by omega)).mono fun e w' ⟨a, b, k⟩ => ⟨a, Two.disk h1 h2 h3 h4 h5 b k⟩
theorem t_rwrite (s : ByteArray) (A : Option Addr) (l : List Int) (c : Nat) (h : U8.C w0 A l.length l) (hl : l.length ≤ 65536) :
    Calls Try.prog 23 #[.pointer (some ⟨r, 0, none⟩), .string s, .slice A l.length c] w fun e w' => e = .returned (.int .i64 0) ∧ Two P wp w1 w' g r n (m + 1) F (updF G (nm s) (some (l, false))) := by
  obtain ⟨S, T, h1, h2, h3, h4, h5⟩ := H
  exact (rwrite_any r T G m w h2 (by omega) s A l c (fun w' hk => C_old h (hw.trans ((h1.bel.trans (hk.belowB h1.bel.size h4)).mono hw.size))) hl).mono fun e w' ⟨a, b, k⟩ => ⟨a, Two.ref h1 h2 h3 h4 h5 b k⟩
theorem t_sync (s : ByteArray) (hs : s.size ≤ maxLen) :
    Calls Try.prog 11 #[.pointer (some ⟨g, 0, none⟩), .string s] w fun e w' => e = .returned (.int .i64 (if (F (nm s)).isSome = true then 0 else 2)) ∧ Two P wp w1 w' g r (n + 1) m (syncF F (nm s)) G := by
  obtain ⟨S, T, h1, h2, h3, h4, h5⟩ := H
  exact (sync_any g n S F s w h1.disk.1 hs (by omega)).mono fun e w' ⟨a, b, k⟩ => ⟨a, Two.disk h1 h2 h3 h4 h5 b k⟩
theorem t_rsync (s : ByteArray) :
    Calls Try.prog 12 #[.pointer (some ⟨r, 0, none⟩), .string s] w fun e w' => e = .returned (.int .i64 (if (G (nm s)).isSome = true then 0 else 2)) ∧ Two P wp w1 w' g r n m F (syncF G (nm s)) := by
  obtain ⟨S, T, h1, h2, h3, h4, h5⟩ := H
  exact (rsync_any r T G m w h2 (by omega) s).mono fun e w' ⟨a, b, k⟩ => ⟨a, Two.ref h1 h2 h3 h4 h5 b k⟩
theorem t_rename (s t : ByteArray) (hs : s.size ≤ maxLen) (ht : t.size ≤ maxLen) :
    Calls Try.prog 13 #[.pointer (some ⟨g, 0, none⟩), .string s, .string t] w fun e w' => e = .returned (.int .i64 (if (F (nm s)).isSome = true then 0 else 2)) ∧ Two P wp w1 w' g r (n + 1) m (renF F (nm s) (nm t)) G := by
  obtain ⟨S, T, h1, h2, h3, h4, h5⟩ := H
  exact (rename_any g n S F s t w h1.disk.1 hs ht (by omega)).mono fun e w' ⟨a, b, k⟩ => ⟨a, Two.disk h1 h2 h3 h4 h5 b k⟩
theorem t_rrename (s t : ByteArray) :
    Calls Try.prog 14 #[.pointer (some ⟨r, 0, none⟩), .string s, .string t] w fun e w' => e = .returned (.int .i64 (if (G (nm s)).isSome = true then 0 else 2)) ∧ Two P wp w1 w' g r n (m + 1) F (renF G (nm s) (nm t)) := by
  obtain ⟨S, T, h1, h2, h3, h4, h5⟩ := H
  exact (rrename_any r T G m w h2 (by omega) s t).mono fun e w' ⟨a, b, k⟩ => ⟨a, Two.ref h1 h2 h3 h4 h5 b k⟩
theorem t_crash (keep : Int) (hk0 : -9223372036854775808 ≤ keep) (hk1 : keep ≤ 9223372036854775807) :
    Calls Try.prog 17 #[.pointer (some ⟨g, 0, none⟩), .int .i64 keep] w fun e w' => e = .returned (.tuple #[]) ∧ Two P wp w1 w' g r n m (crashF keep F) G := by
  obtain ⟨S, T, h1, h2, h3, h4, h5⟩ := H
  exact (crash_any g n S F keep w h1.disk.1 (by omega) hk0 hk1).mono fun e w' ⟨a, b, k⟩ => ⟨a, Two.disk h1 h2 h3 h4 h5 b k⟩
theorem t_rcrash (keep : Int) (hk0 : -9223372036854775808 ≤ keep) (hk1 : keep ≤ 9223372036854775807) :
    Calls Try.prog 18 #[.pointer (some ⟨r, 0, none⟩), .int .i64 keep] w fun e w' => e = .returned (.tuple #[]) ∧ Two P wp w1 w' g r n m F (crashF keep G) := by
  obtain ⟨S, T, h1, h2, h3, h4, h5⟩ := H
  exact (rcrash_any r T G m w h2 (by omega) keep hk0 hk1).mono fun e w' ⟨a, b, k⟩ => ⟨a, Two.ref h1 h2 h3 h4 h5 b k⟩
theorem t_save (A : Option Addr) (l : List Int) (c : Nat) (stop : Int) (h : U8.C w0 A l.length l) (hl : l.length ≤ 65536) :
    Calls Try.prog 19 #[.pointer (some ⟨g, 0, none⟩), .slice A l.length c, .int .i64 stop] w fun e w' => e = .returned (.int .i64 (if steps stop < 3 then 30 else 0)) ∧ Two P wp w1 w' g r (n + 3) m (saveF F l (steps stop)) G := by
  obtain ⟨S, T, h1, h2, h3, h4, h5⟩ := H
  exact (save_any g n S F A l c stop w hl h1.disk.1 h1.disk.2 hn (C_old h (hw.trans (h1.bel.mono hw.size)))).mono fun e w' ⟨a, b, k⟩ => ⟨a, Two.disk h1 h2 h3 h4 h5 b k⟩
theorem t_rsave (A : Option Addr) (l : List Int) (c : Nat) (stop : Int) (h : U8.C w0 A l.length l) (hl : l.length ≤ 65536) :
    Calls Try.prog 21 #[.pointer (some ⟨r, 0, none⟩), .slice A l.length c, .int .i64 stop] w fun e w' => e = .returned (.int .i64 (if steps stop < 3 then 30 else 0)) ∧ Two P wp w1 w' g r n (m + 2) F (saveF G l (steps stop)) := by
  obtain ⟨S, T, h1, h2, h3, h4, h5⟩ := H
  exact (rsave_any r T G m w h2 hm A l c stop (fun w' hk => C_old h (hw.trans ((h1.bel.trans (hk.belowB h1.bel.size h4)).mono hw.size))) hl).mono fun e w' ⟨a, b, k⟩ => ⟨a, Two.ref h1 h2 h3 h4 h5 b k⟩
theorem t_read (s : ByteArray) (hs : s.size ≤ maxLen) :
    Calls Try.prog 24 #[.pointer (some ⟨g, 0, none⟩), .string s] w fun e w' => ∃ A c, e = .returned (.tuple #[.slice A (((F (nm s)).map (·.1)).getD []).length c, .bool (F (nm s)).isSome]) ∧ U8.C w' A (((F (nm s)).map (·.1)).getD []).length (((F (nm s)).map (·.1)).getD []) ∧ Below w.heap.size w w' := by
  obtain ⟨S, T, h1, h2, h3, h4, h5⟩ := H
  refine (read_any g n S F s w h1.disk.1 hs).mono fun e w' ⟨v, he, hv, hb⟩ => ?_
  obtain ⟨A, c, rfl, hc, hr⟩ := Kd.R_reads hv
  exact ⟨A, c, he, hr, hb⟩
theorem t_load :
    Calls Try.prog 15 #[.pointer (some ⟨g, 0, none⟩)] w fun e w' => ∃ A c, e = .returned (.tuple #[.slice A (((F (nm users)).map (·.1)).getD []).length c, .bool (F (nm users)).isSome]) ∧ U8.C w' A (((F (nm users)).map (·.1)).getD []).length (((F (nm users)).map (·.1)).getD []) ∧ Below w.heap.size w w' := by
  obtain ⟨S, T, h1, h2, h3, h4, h5⟩ := H
  refine (load_any g n S F w h1.disk.1).mono fun e w' ⟨v, he, hv, hb⟩ => ?_
  obtain ⟨A, c, rfl, hc, hr⟩ := Kd.R_reads hv
  exact ⟨A, c, he, hr, hb⟩
theorem t_rread (s : ByteArray) :
    Calls Try.prog 16 #[.pointer (some ⟨r, 0, none⟩), .string s] w fun e w' => ∃ A c, e = .returned (.tuple #[.slice A (((G (nm s)).map (·.1)).getD []).length c, .bool (G (nm s)).isSome]) ∧ U8.C w' A (((G (nm s)).map (·.1)).getD []).length (((G (nm s)).map (·.1)).getD []) ∧ Below w.heap.size w w' := by
  obtain ⟨S, T, h1, h2, h3, h4, h5⟩ := H
  exact rread_any r T G m w h2 (by omega) s
end
end Go.Proofs.Ytdjbapbfbgcfjaa
