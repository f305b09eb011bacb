/- The laws' helpers: few, name, and the document's example. -/
import Derived.Test.YtdjbapbfbgcfjaaDiskW4
import Derived.Lib.SlBytesConst
set_option linter.unusedVariables false
set_option linter.unusedSimpArgs false
namespace Go.Proofs.Ytdjbapbfbgcfjaa
open Go.RowKit Go.Maps Go.ChangeMaps Go.MapKept Mv Go.Proofs.YtdjbapbfbgcfjaaW.PrintWords

theorem updF_same (F : Lit → Option (List Int × Bool)) (kl : Lit) (v : Option (List Int × Bool)) : updF F kl v kl = v := by simp [updF]
theorem updF_other (F : Lit → Option (List Int × Bool)) {kl x : Lit} (v : Option (List Int × Bool)) (h : x ≠ kl) : updF F kl v x = F x := by simp [updF, h]
theorem nm_inj {a b : ByteArray} (h : nm a = nm b) : a = b := by
  unfold nm at h
  injection h with h
  cases a; cases b
  simp at h
  rw [h]
theorem nm_ne {a b : ByteArray} (h : a ≠ b) : nm a ≠ nm b := fun e => h (nm_inj e)
theorem tmp_users : nm users ≠ nm tmp := nm_ne (by decide)

theorem saveF_tmp (F : Lit → Option (List Int × Bool)) (l : List Int) (k : Nat) : saveF F l k (nm tmp) = (match k with | 0 => F (nm tmp) | 1 => some (l, false) | 2 => some (l, true) | _ => none) := by
  match k with
  | 0 => rfl
  | 1 => exact updF_same _ _ _
  | 2 => simp [saveF, syncF, updF_same]
  | k + 3 =>
    show renF _ _ _ _ = none
    unfold renF syncF
    rw [updF_same, updF_same]
    simp [updF_same, updF_other, tmp_users.symm]
theorem saveF_users (F : Lit → Option (List Int × Bool)) (l : List Int) (k : Nat) : saveF F l k (nm users) = if k < 3 then F (nm users) else some (l, true) := by
  match k with
  | 0 => rfl
  | 1 => simp [saveF, updF_other, tmp_users]
  | 2 => simp [saveF, syncF, updF_other, tmp_users]
  | k + 3 =>
    rw [if_neg (by omega)]
    show renF _ _ _ _ = _
    unfold renF syncF
    rw [updF_same, updF_same]
    simp [updF_same]
theorem saveF_other (F : Lit → Option (List Int × Bool)) (l : List Int) (k : Nat) {x : Lit} (h1 : x ≠ nm tmp) (h2 : x ≠ nm users) : saveF F l k x = F x := by
  match k with
  | 0 => rfl
  | 1 => simp [saveF, updF_other, h1]
  | 2 => simp [saveF, syncF, updF_other, h1]
  | k + 3 =>
    show renF _ _ _ _ = _
    unfold renF syncF
    rw [updF_same, updF_same]
    simp [updF_other, h1, h2]

/-- The disk, whose blocks are some of those that there are. -/
def DiskIn (w : World) (g : Nat) (S : Nat → Prop) (n : Nat) (F : Lit → Option (List Int × Bool)) : Prop := DiskAt w g S n F ∧ ∀ k, S k → k < w.heap.size

set_option maxHeartbeats 400000 in
theorem few_any (A : Option Addr) (l : List Int) (c : Nat) (w : World) (h : U8.C w A l.length l) (hc : l.length ≤ c) :
    Calls Try.prog 20 #[.slice A l.length c] w fun e w' => e = .returned (.slice A (l.take 50).length c) ∧ w' = w := by
  have hm := h.2.1
  go_enter Try.func20, Try.ntmps20
  go_wp2
  all_goals go_ret
  · exact ⟨congrArg (fun k => Ending.returned (.slice A k c)) (by omega), rfl⟩
  · exact ⟨congrArg (fun k => Ending.returned (.slice A k c)) (by omega), rfl⟩

theorem extract_all (s : ByteArray) (k : Nat) (h : s.size ≤ k) : s.extract 0 k = s := by
  apply ByteArray.ext
  rw [ByteArray.data_extract]
  apply Array.ext'
  have h' : s.data.toList.length ≤ k := by rw [Array.length_toList]; exact h
  simp [List.take_of_length_le h']

set_option maxHeartbeats 400000 in
theorem name_any (s : ByteArray) (w : World) (hs : s.size ≤ maxLen) :
    Calls Try.prog 10 #[.string s] w fun e w' => e = .returned (.string (s.extract 0 8)) ∧ w' = w := by
  unfold maxLen at hs
  go_enter Try.func10, Try.ntmps10
  go_wp2
  all_goals go_ret
  · exact ⟨rfl, rfl⟩
  · exact ⟨congrArg (fun k => Ending.returned (.string k)) (extract_all s 8 (by omega)).symm, rfl⟩

theorem C_lit (w : World) (cs : List Int) (e : TypeId) (fr : Nat × Nat) (hm : cs.length ≤ 9223372036854775807) : U8.C (w.alloc (.cells (nums .u8 cs).toArray e fr)) (some ⟨w.heap.size, 0, none⟩) cs.length cs := by
  refine ⟨rfl, hm, fun _ => ⟨_, rfl, fun j p hp => ⟨[.int .u8 p], rfl, rfl, fun i u hu => ?_⟩⟩⟩
  have hi : i = 0 := by
    rcases i with _ | i
    · rfl
    · simp at hu
  subst hi
  simp at hu
  subst hu
  have hj := (List.getElem?_eq_some_iff.1 hp).1
  have hsz : U8.sz = 1 := rfl
  rw [hsz, Nat.mul_one, Nat.add_zero]
  have ha : (⟨w.heap.size, 0, none⟩ : Addr).add j = ⟨w.heap.size, j, none⟩ := add_plain _ _
  rw [ha]
  have hh : (w.alloc (.cells (nums .u8 cs).toArray e fr)).heap[w.heap.size]? = some (.cells (nums .u8 cs).toArray e fr) := heap_alloc_new w _
  unfold World.cell?
  rw [hh]
  simp [nums, hp]

theorem DiskIn.below {w w' : World} {g n : Nat} {S : Nat → Prop} {F : Lit → Option (List Int × Bool)} (H : DiskIn w g S n F) (hb : Below w.heap.size w w') : DiskIn w' g S n F :=
  ⟨H.1.below hb H.2, fun k hk => by have := H.2 k hk; have := hb.size; omega⟩
theorem DiskIn.alloc {w : World} {g n : Nat} {S : Nat → Prop} {F : Lit → Option (List Int × Bool)} (H : DiskIn w g S n F) (o : Obj) : DiskIn (w.alloc o) g S n F := H.below ((Below.refl _ _).alloc (Nat.le_refl _) o)
theorem DiskIn.more {w w' : World} {g n n' : Nat} {S : Nat → Prop} {F F' : Lit → Option (List Int × Bool)} (H : DiskIn w g S n F) (hd : DiskAt w' g (more S w w') n' F') (hk : Kp S w w') : DiskIn w' g (Go.Proofs.Ytdjbapbfbgcfjaa.more S w w') n' F' := ⟨hd, more_lt H.2 hk.size⟩
/-- What is below B stays, where the disk's blocks lie from B on. -/
theorem below_kp {B : Nat} {w w1 w' : World} {S : Nat → Prop} (hb : Below B w w1) (hk : Kp S w1 w') (hB : B ≤ w1.heap.size) (hS : ∀ k, S k → B ≤ k) : Below B w w' := hb.trans (hk.belowB hB hS)
theorem more_ge {B : Nat} {w w' : World} {S : Nat → Prop} (hS : ∀ k, S k → B ≤ k) (hB : B ≤ w.heap.size) : ∀ k, more S w w' k → B ≤ k := fun k hk => by
  rcases hk with hk | hk
  · exact hS k hk
  · omega

/-- A disk of the call's own: what was there before w0's end is as it was. -/
structure Own (w0 w : World) (g n : Nat) (F : Lit → Option (List Int × Bool)) (S : Nat → Prop) : Prop where
  disk : DiskIn w g S n F
  low : ∀ k, S k → w0.heap.size ≤ k
  bel : Below w0.heap.size w0 w
theorem Own.step {w0 w w' : World} {g n n' : Nat} {F F' : Lit → Option (List Int × Bool)} {S : Nat → Prop} (h : Own w0 w g n F S) (hd : DiskAt w' g (more S w w') n' F') (hk : Kp S w w') : Own w0 w' g n' F' (Go.Proofs.Ytdjbapbfbgcfjaa.more S w w') :=
  ⟨h.disk.more hd hk, more_ge h.low h.bel.size, below_kp h.bel hk h.bel.size h.low⟩
theorem Own.below {w0 w w' : World} {g n : Nat} {F : Lit → Option (List Int × Bool)} {S : Nat → Prop} (h : Own w0 w g n F S) (hb : Below w.heap.size w w') : Own w0 w' g n F S :=
  ⟨h.disk.below hb, h.low, h.bel.trans (hb.mono h.bel.size)⟩
theorem Own.alloc {w0 w : World} {g n : Nat} {F : Lit → Option (List Int × Bool)} {S : Nat → Prop} (h : Own w0 w g n F S) (o : Obj) : Own w0 (w.alloc o) g n F S := h.below ((Below.refl _ _).alloc (Nat.le_refl _) o)
theorem Own.new {w0 w : World} {g : Nat} {F : Lit → Option (List Int × Bool)} (hd : DiskAt w g (fun k => w0.heap.size ≤ k ∧ k < w.heap.size) 0 F) (hb : Below w0.heap.size w0 w) : Own w0 w g 0 F (fun k => w0.heap.size ≤ k ∧ k < w.heap.size) :=
  ⟨⟨hd, fun k hk => hk.2⟩, fun k hk => hk.1, hb⟩

set_option maxHeartbeats 1000000 in
theorem shown_any (w : World) : Calls Try.prog 8 #[] w fun e w' => e = .returned (.bool true) ∧ Below w.heap.size w w' := by
  have kc := fun (w : World) (C : Array Value) (n c : Nat) => Lib.run_convert_bytes_const (P := Try.prog) w 30 5 C n c Try.underlying30 Try.underlying5
  go_enter Try.func8, Try.ntmps8
  go_wp2_with (first | (go_at_call 9; refine (new_any _).mono ?_; rintro e w1 ⟨g, rfl, hd, hb⟩; have O1 := hide (Own.new hd hb); clear hd hb))
  have O2 := hide (O1.out.alloc (.cells #[.int .u8 97, .int .u8 98] 5 (2, 3)))
  have C2 := hide (C_lit w1 [97, 98] 5 (2, 3) (by decide))
  refine (save_any g 0 _ _ (some ⟨w1.heap.size, 0, none⟩) [97, 98] 2 3 _ (by decide) O2.out.disk.1 O2.out.disk.2 (by decide) C2.out).mono ?_
  rintro e w2 ⟨rfl, hd, hk⟩
  have O3 := hide (O2.out.step hd hk)
  clear hd hk
  go_wp2_with fail
  have O4 := hide (O3.out.alloc (.cells #[.int .u8 99, .int .u8 100] 5 (2, 3)))
  have C4 := hide (C_lit w2 [99, 100] 5 (2, 3) (by decide))
  refine (save_any g 3 _ _ (some ⟨w2.heap.size, 0, none⟩) [99, 100] 2 1 _ (by decide) O4.out.disk.1 O4.out.disk.2 (by decide) C4.out).mono ?_
  rintro e w3 ⟨rfl, hd, hk⟩
  have O5 := hide (O4.out.step hd hk)
  clear hd hk
  go_wp2_with fail
  refine (crash_any g 6 _ _ 1 _ O5.out.disk.1 (by decide) (by decide) (by decide)).mono ?_
  rintro e w4 ⟨rfl, hd, hk⟩
  have O6 := hide (O5.out.step hd hk)
  clear hd hk
  go_wp2_with fail
  refine (load_any g 6 _ _ _ O6.out.disk.1).mono ?_
  have hF : crashF 1 (saveF (saveF (fun x => none) [97, 98] (steps 3)) [99, 100] (steps 1)) (nm users) = some ([97, 98], true) := by
    rw [show steps 3 = 3 from rfl, show steps 1 = 1 from rfl]
    unfold crashF
    rw [saveF_users, if_pos (by decide), saveF_users, if_neg (by decide)]
    rfl
  rw [hF]
  rintro e w5 ⟨v, rfl, hv, hb⟩
  obtain ⟨A, c, rfl, hc, hr⟩ := Kd.R_reads hv
  have kst : (convert 30 9 (.slice A 2 c)).run Try.prog w5 = .ok (.string ⟨#[97, 98]⟩) w5 := Kd.C_string (P := Try.prog) (c := c) Try.underlying30 Try.underlying5 Try.underlying9 hr
  have O7 := hide (O6.out.below hb)
  clear hF hv hb hr kc hc
  go_wp2_with fail
  go_ret
  exact ⟨rfl, O7.out.bel⟩
end Go.Proofs.Ytdjbapbfbgcfjaa
