/- The state of the program's disk in memory, and what keeps it. -/
import Derived.Test.YtdjbapbfbgcfjaaMapOps
import Derived.StringKeys
import Derived.Test.YtdjbapbfbgcfjaaWWords
import Derived.Test.YtdjbapbfbgcfjaaWMore
import Derived.Test.YtdjbapbfbgcfjaaRows
set_option linter.unusedVariables false
set_option linter.unusedSimpArgs false
namespace Go.Proofs.Ytdjbapbfbgcfjaa
open Go.RowKit Go.Maps Go.ChangeMaps Go.MapKept Mv Go.Proofs.YtdjbapbfbgcfjaaW.PrintWords

abbrev U8 : Kd Int := Kd.int .u8

theorem C_cells {w w1 : World} {A : Option Addr} {n : Nat} {l : List Int} (h : U8.C w A n l) (hb : ∀ ad, A = some ad → ∀ a v, a.block = ad.block → w.cell? a = some v → w1.cell? a = some v) : U8.C w1 A n l := by
  refine ⟨h.1, h.2.1, fun hn => ?_⟩
  obtain ⟨ad, e, hc⟩ := h.2.2 hn
  refine ⟨ad, e, fun j p hp => ?_⟩
  obtain ⟨c, h1, h2, h3⟩ := hc j p hp
  refine ⟨c, h1, h2, fun i u hu => ?_⟩
  have hbl : (ad.add (j * U8.sz + i)).block = ad.block := by unfold Addr.add; split <;> rfl
  exact hb ad e _ _ hbl (h3 i u hu)

/-- A file as it lies in memory: its value v. S: the blocks that are the disk's. -/
def FileAt (w : World) (S : Nat → Prop) (v : Value) (f : List Int × Bool) : Prop :=
  ∃ A c, v = .agg #[.slice A f.1.length c, .bool f.2] ∧ f.1.length ≤ c ∧ (A = none → c = 0) ∧ f.1.length ≤ 65536 ∧ U8.C w A f.1.length f.1 ∧ ∀ ad, A = some ad → S ad.block

/-- Names as the map has them. -/
def nm (s : ByteArray) : Lit := .string s.data.toList

def FilesAt (w : World) (S : Nat → Prop) (M : Lit → Option Value) (F : Lit → Option (List Int × Bool)) : Prop :=
  ∀ kl, (F kl = none → M kl = none) ∧ ∀ f, F kl = some f → ∃ v, M kl = some v ∧ FileAt w S v f

/-- The disk at block g has the files F; at most n; its blocks are among S. -/
def DiskAt (w : World) (g : Nat) (S : Nat → Prop) (n : Nat) (F : Lit → Option (List Int × Bool)) : Prop :=
  ∃ m M, w.heap[g]? = some (.cells #[.map (some m)] 57 (0, 0)) ∧ MapV Try.prog 9 w m n M ∧ FilesAt w S M F ∧ S g ∧ S m ∧ g < w.heap.size

theorem FileAt.keep {w w1 : World} {S S1 : Nat → Prop} {v : Value} {f : List Int × Bool} (h : FileAt w S v f) (hb : ∀ a v, S a.block → w.cell? a = some v → w1.cell? a = some v) (hS : ∀ k, S k → S1 k) : FileAt w1 S1 v f := by
  obtain ⟨A, c, h1, h2, h2', h2'', h3, h4⟩ := h
  exact ⟨A, c, h1, h2, h2', h2'', C_cells h3 fun ad e a v hbl hc => hb a v (by rw [hbl]; exact h4 ad e) hc, fun ad e => hS _ (h4 ad e)⟩

theorem FilesAt.keep {w w1 : World} {S S1 : Nat → Prop} {M : Lit → Option Value} {F : Lit → Option (List Int × Bool)} (h : FilesAt w S M F) (hb : ∀ a v, S a.block → w.cell? a = some v → w1.cell? a = some v) (hS : ∀ k, S k → S1 k) : FilesAt w1 S1 M F :=
  fun kl => ⟨(h kl).1, fun f hf => by
    obtain ⟨v, h1, h2⟩ := (h kl).2 f hf
    exact ⟨v, h1, h2.keep hb hS⟩⟩

theorem cell_block {w w1 : World} {a : Addr} {v : Value} (hb : w1.heap[a.block]? = w.heap[a.block]?) (hc : w.cell? a = some v) : w1.cell? a = some v := (World.cell?_of_block hb).trans hc

theorem DiskAt.keep {w w1 : World} {g n : Nat} {S S1 : Nat → Prop} {F : Lit → Option (List Int × Bool)} (h : DiskAt w g S n F) (hb : ∀ k, S k → k < w.heap.size → w1.heap[k]? = w.heap[k]?) (hs : w.heap.size ≤ w1.heap.size) (hS : ∀ k, S k → S1 k) : DiskAt w1 g S1 n F := by
  obtain ⟨m, M, h1, h2, h3, h4, h5, h6⟩ := h
  exact ⟨m, M, (hb g h4 h6).trans h1, h2.same (hb m h5 h2.lt), h3.keep (fun a v hs hc => cell_block (hb _ hs (World.block_lt_of_cell? w a hc)) hc) hS, hS g h4, hS m h5, by omega⟩

/-- What leaves the disk's blocks alone leaves the disk. -/
theorem DiskAt.kp {w w1 : World} {g n : Nat} {S T : Nat → Prop} {F : Lit → Option (List Int × Bool)} (h : DiskAt w g S n F) (hk : Kp T w w1) (hd : ∀ k, S k → T k → w.heap.size ≤ k) : DiskAt w1 g S n F :=
  h.keep (fun k hs hlt => hk.block k hlt fun ht => by have := hd k hs ht; omega) hk.size fun _ hs => hs

theorem DiskAt.mono {w : World} {g n n' : Nat} {S : Nat → Prop} {F : Lit → Option (List Int × Bool)} (h : DiskAt w g S n F) (hn : n ≤ n') : DiskAt w g S n' F := by
  obtain ⟨m, M, h1, h2, h3⟩ := h
  exact ⟨m, M, h1, h2.mono hn, h3⟩

theorem law9 : Keyed Try.prog 9 := string_keyed Try.underlying9
theorem zero59 (w : World) : (zeroValue 59).run Try.prog w = .ok (.agg #[.slice none 0 0, .bool false]) w := by kernel_rfl
theorem key9 {s : ByteArray} (hs : s.size ≤ maxLen) : keyOf Try.prog 9 (.string s) = some (nm s) := Go.WideMaps.keyOf_string_mk Try.underlying9 hs
end Go.Proofs.Ytdjbapbfbgcfjaa
