/- What a call may write. -/
import Derived.Below
import Derived.WalkKit
import Derived.Deep.Draws
import Derived.Test.YtencimfeipglaaaDoorWWords
set_option linter.unusedVariables false
namespace Go.Proofs.YtencimfeipglaaaDoor.X
open Go.RowKit Go.Proofs.YtencimfeipglaaaDoorW.PrintWords

/-- Of the blocks that were there, those of S alone may have turned. -/
structure Kp (S : Nat → Prop) (w w' : World) : Prop where
  os : w'.os = w.os
  tape : w'.tape = w.tape
  output : w'.output = w.output
  size : w.heap.size ≤ w'.heap.size
  block : ∀ k, k < w.heap.size → ¬ S k → w'.heap[k]? = w.heap[k]?

namespace Kp
variable {S T : Nat → Prop} {w w1 w2 : World}
theorem refl (S : Nat → Prop) (w : World) : Kp S w w := ⟨rfl, rfl, rfl, Nat.le_refl _, fun _ _ _ => rfl⟩
theorem trans' (h : Kp S w w1) (k : Kp T w1 w2) (hS : ∀ i, T i → S i ∨ w.heap.size ≤ i) : Kp S w w2 :=
  ⟨k.os.trans h.os, k.tape.trans h.tape, k.output.trans h.output, Nat.le_trans h.size k.size, fun i hi hn =>
    (k.block i (Nat.lt_of_lt_of_le hi h.size) (fun ht => by rcases hS i ht with h | h; exact hn h; omega)).trans (h.block i hi hn)⟩
theorem trans (h : Kp S w w1) (k : Kp S w1 w2) : Kp S w w2 := h.trans' k fun _ h => .inl h
theorem mono (h : Kp S w w1) (hT : ∀ i, S i → T i) : Kp T w w1 := ⟨h.os, h.tape, h.output, h.size, fun i hi hn => h.block i hi fun hs => hn (hT i hs)⟩
theorem of_below (h : Below w.heap.size w w1) : Kp S w w1 := ⟨h.os, h.tape, h.output, h.size, fun i hi _ => h.block i hi⟩
theorem of_grown {row : Option Nat} (h : w.grownBy w1 row) (hr : ∀ k, row = some k → S k ∨ w.heap.size ≤ k) : Kp S w w1 :=
  ⟨h.os, h.tape, h.output, h.size, fun i hi hn => h.block i hi fun e => by rcases hr i e.symm with h | h; exact hn h; omega⟩
theorem alloc (h : Kp S w w1) (o : Obj) : Kp S w (w1.alloc o) := h.trans' (T := fun _ => False) (of_grown (World.grownBy_alloc w1 o none) fun _ e => by cases e) fun _ h => h.elim
theorem drew (h : Kp S w w1) : Kp S w w1.drew := ⟨h.os, h.tape, h.output, h.size, h.block⟩
theorem drewN (h : Kp S w w1) (n : Nat) : Kp S w (w1.drewN n) := ⟨h.os, h.tape, h.output, h.size, h.block⟩
theorem setCell (h : Kp S w w1) {a : Addr} (ha : S a.block ∨ w.heap.size ≤ a.block) (v : Value) : Kp S w (w1.setCell a v) :=
  h.trans' (T := fun k => k = a.block) ⟨rfl, rfl, rfl, by simp, fun i _ hn => Below.heap_setCell w1 a v i hn⟩ fun i e => by rw [e]; exact ha
theorem below (h : Kp S w w1) (hS : ∀ k, S k → w.heap.size ≤ k) : Below w.heap.size w w1 :=
  ⟨h.os, h.tape, h.output, h.size, fun i hi => h.block i hi fun hs => by have := hS i hs; omega⟩
theorem belowB (h : Kp S w w1) {B : Nat} (hB : B ≤ w.heap.size) (hS : ∀ k, S k → B ≤ k) : Below B w w1 :=
  ⟨h.os, h.tape, h.output, h.size, fun i hi => h.block i (by omega) fun hs => by have := hS i hs; omega⟩
theorem cell (h : Kp S w w1) {a : Addr} {v : Value} (hc : w.cell? a = some v) (hn : ¬ S a.block) : w1.cell? a = some v :=
  (World.cell?_of_block (h.block a.block (World.block_lt_of_cell? w a hc) hn)).trans hc
end Kp

theorem pw_lt {w : World} {g : Nat} {o : Obj} (h : w.heap[g]? = some o) : g < w.heap.size := by
  rcases Nat.lt_or_ge g w.heap.size with h' | h'
  · exact h'
  · simp [Array.getElem?_eq_none h'] at h
theorem pw_cells {w : World} {g : Nat} {cs : Array Value} {t : TypeId} (h : w.heap[g]? = some (.cells cs t (0, 0))) (j : Nat) : w.cell? ⟨g, j, none⟩ = cs[j]? ∧ w.frozen? ⟨g, j, none⟩ = false := by
  simp [World.cell?, World.frozen?, h]
end Go.Proofs.YtencimfeipglaaaDoor.X
