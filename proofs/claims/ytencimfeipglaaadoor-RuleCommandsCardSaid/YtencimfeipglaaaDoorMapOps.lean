/- The laws of a map, told as a function, at the operations of a walk; and what a call may write. -/
import Derived.Test.YtencimfeipglaaaDoorMapV
import Derived.Deep.Draws
set_option linter.unusedVariables false
set_option linter.unusedSimpArgs false
namespace Go.Proofs.YtencimfeipglaaaDoor.Mv
open Go.RowKit Go.Maps Go.ChangeMaps Go.MapKept Go.WideShapes

/-- Of the blocks that were there, those of S alone may have turned. -/
structure Kp (S : Nat → Prop) (w w' : World) : Prop where
  os : w'.os = w.os
  tape : w'.tape = w.tape
  output : w'.output = w.output
  size : w.heap.size ≤ w'.heap.size
  block : ∀ k, k < w.heap.size → ¬ S k → w'.heap[k]? = w.heap[k]?

namespace Kp
variable {S T : Nat → Prop} {w w1 w2 : World}
theorem refl (S : Nat → Prop) (w : World) : Kp S w w := ⟨rfl, rfl, rfl, Nat.le_refl _, fun _ _ _ => rfl⟩
theorem trans' (h : Kp S w w1) (k : Kp T w1 w2) (hS : ∀ i, T i → S i ∨ w.heap.size ≤ i) : Kp S w w2 :=
  ⟨k.os.trans h.os, k.tape.trans h.tape, k.output.trans h.output, Nat.le_trans h.size k.size, fun i hi hn =>
    (k.block i (Nat.lt_of_lt_of_le hi h.size) (fun ht => by rcases hS i ht with h | h; exact hn h; omega)).trans (h.block i hi hn)⟩
theorem trans (h : Kp S w w1) (k : Kp S w1 w2) : Kp S w w2 := h.trans' k fun _ h => .inl h
theorem mono (h : Kp S w w1) (hT : ∀ i, S i → T i) : Kp T w w1 := ⟨h.os, h.tape, h.output, h.size, fun i hi hn => h.block i hi fun hs => hn (hT i hs)⟩
theorem of_below (h : Below w.heap.size w w1) : Kp S w w1 := ⟨h.os, h.tape, h.output, h.size, fun i hi _ => h.block i hi⟩
theorem of_grown {row : Option Nat} (h : w.grownBy w1 row) (hr : ∀ k, row = some k → S k ∨ w.heap.size ≤ k) : Kp S w w1 :=
  ⟨h.os, h.tape, h.output, h.size, fun i hi hn => h.block i hi fun e => by rcases hr i e.symm with h | h; exact hn h; omega⟩
theorem alloc (h : Kp S w w1) (o : Obj) : Kp S w (w1.alloc o) := h.trans' (T := fun _ => False) (of_grown (World.grownBy_alloc w1 o none) fun _ e => by cases e) fun _ h => h.elim
theorem drew (h : Kp S w w1) : Kp S w w1.drew := ⟨h.os, h.tape, h.output, h.size, h.block⟩
theorem drewN (h : Kp S w w1) (n : Nat) : Kp S w (w1.drewN n) := ⟨h.os, h.tape, h.output, h.size, h.block⟩
theorem setCell (h : Kp S w w1) {a : Addr} (ha : S a.block ∨ w.heap.size ≤ a.block) (v : Value) : Kp S w (w1.setCell a v) :=
  h.trans' (T := fun k => k = a.block) ⟨rfl, rfl, rfl, by simp, fun i _ hn => Below.heap_setCell w1 a v i hn⟩ fun i e => by rw [e]; exact ha
theorem turned (h : Kp S w w1) {m : Nat} (ht : w1.mapTurned w2 m) (hm : S m ∨ w.heap.size ≤ m) : Kp S w w2 :=
  h.trans' (T := fun k => k = m) (of_grown ht.grown fun k e => by cases e; exact .inl rfl) fun i e => by rw [e]; exact hm
theorem below (h : Kp S w w1) (hS : ∀ k, S k → w.heap.size ≤ k) : Below w.heap.size w w1 :=
  ⟨h.os, h.tape, h.output, h.size, fun i hi => h.block i hi fun hs => by have := hS i hs; omega⟩
theorem belowB (h : Kp S w w1) {B : Nat} (hB : B ≤ w.heap.size) (hS : ∀ k, S k → B ≤ k) : Below B w w1 :=
  ⟨h.os, h.tape, h.output, h.size, fun i hi => h.block i (by omega) fun hs => by have := hS i hs; omega⟩
theorem cell (h : Kp S w w1) {a : Addr} {v : Value} (hc : w.cell? a = some v) (hn : ¬ S a.block) : w1.cell? a = some v :=
  (World.cell?_of_block (h.block a.block (World.block_lt_of_cell? w a hc) hn)).trans hc
end Kp

section
variable {P : Program} (w : World) {ops : Array Oper} {rest : List Oper} {o : Oper} {a : Act} {Q : Exit → Act → World → Prop}

/-- 'v, ok := m[k]' -/
theorem op_lookok (hg : o.guard = none) (m x : Operand) (t : TypeId) (hop : o.op = Op.lookup t m x true)
    (k e : TypeId) (K : Keyed P k) (ht : P.underlying t = some (.map k e)) (z : Value) (hz : (zeroValue e).run P w = .ok z w) (b n : Nat) (M : Lit → Option Value)
    (hm : a.eval m = .map (some b)) (h : MapV P k w b n M) (key : Value) (kl : Lit) (hx : a.eval x = key) (hkey : keyOf P k key = some kl)
    (hK : wpList P ops Q rest (a.put o.dst (.tuple #[(M kl).getD z, .bool (M kl).isSome])) w) :
    wpList P ops Q (o :: rest) a w := by
  refine wpList_plain hg fun K' hK' => ?_
  have hrun := (h.lookup K ht hz hkey).2
  unfold Oper.wp
  simp [execOp, hop, hm, hx, hrun, Result.andThen]
  exact hK' _ _ hK

end

end Go.Proofs.YtencimfeipglaaaDoor.Mv
