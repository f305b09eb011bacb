/- The laws of a map, told as a function, at the operations of a walk; and what a call may write. -/
import Derived.Test.YtjcmmlbonljcnaaMapV
import Derived.Deep.Draws
set_option linter.unusedVariables false
set_option linter.unusedSimpArgs false
namespace Go.Proofs.Ytjcmmlbonljcnaa.Mv
open Go.RowKit Go.Maps Go.ChangeMaps Go.MapKept Go.WideShapes

/-- Kept from the walk. -/
theorem hide {p : Prop} (h : p) : Hid p := h

/-- Of the blocks that were there, those of S alone may have turned. -/
structure Kp (S : Nat → Prop) (w w' : World) : Prop where
  os : w'.os = w.os
  tape : w'.tape = w.tape
  output : w'.output = w.output
  size : w.heap.size ≤ w'.heap.size
  block : ∀ k, k < w.heap.size → ¬ S k → w'.heap[k]? = w.heap[k]?

namespace Kp
variable {S T : Nat → Prop} {w w1 w2 : World}
theorem refl (S : Nat → Prop) (w : World) : Kp S w w := ⟨rfl, rfl, rfl, Nat.le_refl _, fun _ _ _ => rfl⟩
theorem trans' (h : Kp S w w1) (k : Kp T w1 w2) (hS : ∀ i, T i → S i ∨ w.heap.size ≤ i) : Kp S w w2 :=
  ⟨k.os.trans h.os, k.tape.trans h.tape, k.output.trans h.output, Nat.le_trans h.size k.size, fun i hi hn =>
    (k.block i (Nat.lt_of_lt_of_le hi h.size) (fun ht => by rcases hS i ht with h | h; exact hn h; omega)).trans (h.block i hi hn)⟩
theorem trans (h : Kp S w w1) (k : Kp S w1 w2) : Kp S w w2 := h.trans' k fun _ h => .inl h
theorem mono (h : Kp S w w1) (hT : ∀ i, S i → T i) : Kp T w w1 := ⟨h.os, h.tape, h.output, h.size, fun i hi hn => h.block i hi fun hs => hn (hT i hs)⟩
theorem of_below (h : Below w.heap.size w w1) : Kp S w w1 := ⟨h.os, h.tape, h.output, h.size, fun i hi _ => h.block i hi⟩
theorem of_grown {row : Option Nat} (h : w.grownBy w1 row) (hr : ∀ k, row = some k → S k ∨ w.heap.size ≤ k) : Kp S w w1 :=
  ⟨h.os, h.tape, h.output, h.size, fun i hi hn => h.block i hi fun e => by rcases hr i e.symm with h | h; exact hn h; omega⟩
theorem alloc (h : Kp S w w1) (o : Obj) : Kp S w (w1.alloc o) := h.trans' (T := fun _ => False) (of_grown (World.grownBy_alloc w1 o none) fun _ e => by cases e) fun _ h => h.elim
theorem drew (h : Kp S w w1) : Kp S w w1.drew := ⟨h.os, h.tape, h.output, h.size, h.block⟩
theorem drewN (h : Kp S w w1) (n : Nat) : Kp S w (w1.drewN n) := ⟨h.os, h.tape, h.output, h.size, h.block⟩
theorem setCell (h : Kp S w w1) {a : Addr} (ha : S a.block ∨ w.heap.size ≤ a.block) (v : Value) : Kp S w (w1.setCell a v) :=
  h.trans' (T := fun k => k = a.block) ⟨rfl, rfl, rfl, by simp, fun i _ hn => Below.heap_setCell w1 a v i hn⟩ fun i e => by rw [e]; exact ha
theorem turned (h : Kp S w w1) {m : Nat} (ht : w1.mapTurned w2 m) (hm : S m ∨ w.heap.size ≤ m) : Kp S w w2 :=
  h.trans' (T := fun k => k = m) (of_grown ht.grown fun k e => by cases e; exact .inl rfl) fun i e => by rw [e]; exact hm
theorem below (h : Kp S w w1) (hS : ∀ k, S k → w.heap.size ≤ k) : Below w.heap.size w w1 :=
  ⟨h.os, h.tape, h.output, h.size, fun i hi => h.block i hi fun hs => by have := hS i hs; omega⟩
theorem belowB (h : Kp S w w1) {B : Nat} (hB : B ≤ w.heap.size) (hS : ∀ k, S k → B ≤ k) : Below B w w1 :=
  ⟨h.os, h.tape, h.output, h.size, fun i hi => h.block i (by omega) fun hs => by have := hS i hs; omega⟩
theorem cell (h : Kp S w w1) {a : Addr} {v : Value} (hc : w.cell? a = some v) (hn : ¬ S a.block) : w1.cell? a = some v :=
  (World.cell?_of_block (h.block a.block (World.block_lt_of_cell? w a hc) hn)).trans hc
end Kp

theorem turned_size {w w1 : World} {m : Nat} (h : w.mapTurned w1 m) : w1.heap.size = w.heap.size := by
  obtain ⟨es, clock, es', clock', hb, rfl⟩ := h
  simp [setBlock]
theorem turned_cell {w w1 : World} {m : Nat} (h : w.mapTurned w1 m) (a : Addr) : w1.cell? a = w.cell? a := by
  obtain ⟨es, clock, es', clock', hb, rfl⟩ := h
  by_cases e : a.block = m
  · unfold World.cell?
    rw [e, heap_setBlock_same hb, hb]
  · exact World.cell?_of_block (heap_setBlock_other hb _ e)
theorem turned_frozen {w w1 : World} {m : Nat} (h : w.mapTurned w1 m) (a : Addr) : w1.frozen? a = w.frozen? a := h.frozen a
theorem turned_block {w w1 : World} {m : Nat} (h : w.mapTurned w1 m) {i : Nat} (hi : i ≠ m) : w1.heap[i]? = w.heap[i]? := by
  obtain ⟨es, clock, es', clock', hb, rfl⟩ := h
  exact heap_setBlock_other hb _ hi

section
variable {P : Program} (w : World) {ops : Array Oper} {rest : List Oper} {o : Oper} {a : Act} {Q : Exit → Act → World → Prop}

/-- 'v, ok := m[k]' -/
theorem op_lookok (hg : o.guard = none) (m x : Operand) (t : TypeId) (hop : o.op = Op.lookup t m x true)
    (k e : TypeId) (K : Keyed P k) (ht : P.underlying t = some (.map k e)) (z : Value) (hz : (zeroValue e).run P w = .ok z w) (b n : Nat) (M : Lit → Option Value)
    (hm : a.eval m = .map (some b)) (h : MapV P k w b n M) (key : Value) (kl : Lit) (hx : a.eval x = key) (hkey : keyOf P k key = some kl)
    (hK : wpList P ops Q rest (a.put o.dst (.tuple #[(M kl).getD z, .bool (M kl).isSome])) w) :
    wpList P ops Q (o :: rest) a w := by
  refine wpList_plain hg fun K' hK' => ?_
  have hrun := (h.lookup K ht hz hkey).2
  unfold Oper.wp
  simp [execOp, hop, hm, hx, hrun, Result.andThen]
  exact hK' _ _ hK

/-- 'm[k]' -/
theorem op_look (hg : o.guard = none) (m x : Operand) (t : TypeId) (hop : o.op = Op.lookup t m x false)
    (k e : TypeId) (K : Keyed P k) (ht : P.underlying t = some (.map k e)) (z : Value) (hz : (zeroValue e).run P w = .ok z w) (b n : Nat) (M : Lit → Option Value)
    (hm : a.eval m = .map (some b)) (h : MapV P k w b n M) (key : Value) (kl : Lit) (hx : a.eval x = key) (hkey : keyOf P k key = some kl)
    (hK : wpList P ops Q rest (a.put o.dst ((M kl).getD z)) w) :
    wpList P ops Q (o :: rest) a w := by
  refine wpList_plain hg fun K' hK' => ?_
  have hrun := (h.lookup K ht hz hkey).1
  unfold Oper.wp
  simp [execOp, hop, hm, hx, hrun, Result.andThen]
  exact hK' _ _ hK

/-- 'm[k] = v' -/
theorem op_store (hg : o.guard = none) (m x v : Operand) (t : TypeId) (hop : o.op = Op.mapUpdate t m x v)
    (k e : TypeId) (K : Keyed P k) (ht : P.underlying t = some (.map k e)) (b n : Nat) (M : Lit → Option Value)
    (hm : a.eval m = .map (some b)) (h : MapV P k w b n M) (hn : n < maxLen) (key val : Value) (kl : Lit) (hx : a.eval x = key) (hv : a.eval v = val) (hkey : keyOf P k key = some kl)
    (hK : ∀ w', MapV P k w' b (n + 1) (upd M kl (some val)) → w.mapTurned w' b → wpList P ops Q rest (a.put o.dst undef) w') :
    wpList P ops Q (o :: rest) a w := by
  refine wpList_plain hg fun K' hK' => ?_
  obtain ⟨w', hrun, r1, r2⟩ := h.store K ht hn val hkey
  unfold Oper.wp
  simp [execOp, hop, hm, hx, hv, hrun, Result.andThen]
  exact hK' _ _ (hK w' r1 r2)

/-- 'delete(m, k)' -/
theorem op_delete (hg : o.guard = none) (m x : Operand) (t k : TypeId) (hop : o.op = Op.call { callee := Callee.builtin Builtin.delete, args := #[m, x], argTypes := #[t, k] })
    (e : TypeId) (K : Keyed P k) (ht : P.underlying t = some (.map k e)) (b n : Nat) (M : Lit → Option Value)
    (hm : a.eval m = .map (some b)) (h : MapV P k w b n M) (key : Value) (kl : Lit) (hx : a.eval x = key) (hkey : keyOf P k key = some kl)
    (hK : ∀ w', MapV P k w' b n (upd M kl none) → w.mapTurned w' b → wpList P ops Q rest (a.put o.dst (.tuple #[])) w') :
    wpList P ops Q (o :: rest) a w := by
  refine wpList_plain hg fun K' hK' => ?_
  obtain ⟨w', hrun, r1, r2⟩ := h.drop K ht hkey o.type
  unfold Oper.wp
  simp [execOp, hop, resolve, invoke, builtin, hm, hx, hrun, Result.andThen]
  exact hK' _ _ (hK w' r1 r2)

/-- 'len(m)' -/
theorem op_len (hg : o.guard = none) (m : Operand) (t : TypeId) (hop : o.op = Op.call { callee := Callee.builtin Builtin.len, args := #[m], argTypes := #[t] })
    (k e : TypeId) (K : Keyed P k) (ht : P.underlying t = some (.map k e)) (b n : Nat) (M : Lit → Option Value) (hm : a.eval m = .map (some b)) (h : MapV P k w b n M)
    (hK : ∀ c : Nat, Card M c → c ≤ n → wpList P ops Q rest (a.put o.dst (.int .i64 c)) w) :
    wpList P ops Q (o :: rest) a w := by
  refine wpList_plain hg fun K' hK' => ?_
  obtain ⟨c, hc, hcn, hrun⟩ := h.len K ht
  unfold Oper.wp
  simp [execOp, hop, resolve, invoke, builtin, hm, hrun o.type, Result.andThen]
  exact hK' _ _ (hK c hc hcn)

/-- 'range m' -/
theorem op_range (hg : o.guard = none) (m : Operand) (t : TypeId) (hop : o.op = Op.range t m) (k e : TypeId) (K : Keyed P k) (ht : P.underlying t = some (.map k e)) (b n : Nat) (M : Lit → Option Value)
    (hm : a.eval m = .map (some b)) (h : MapV P k w b n M)
    (hK : ∀ w' left cnt, RangeV P k w' b w.heap.size n M left cnt → (∀ kl, (M kl).isSome = true → left kl = true) → cnt ≤ n → w.grownBy w' none → w'.heap.size = w.heap.size + 1 → wpList P ops Q rest (a.put o.dst (.pointer (some ⟨w.heap.size, 0, none⟩))) w') :
    wpList P ops Q (o :: rest) a w := by
  refine wpList_plain hg fun K' hK' => ?_
  obtain ⟨w', left, cnt, hrun, r1, r2, r3, r4, r5⟩ := h.range K ht
  unfold Oper.wp
  simp [execOp, hop, hm, hrun, Result.andThen]
  exact hK' _ _ (hK w' left cnt r1 r2 r3 r4 r5)

/-- The step of a range; mkK, mkV: what keys and elements look like. -/
theorem op_next {α β : Type} (hg : o.guard = none) (it : Operand) (hop : o.op = Op.next it false) (k : TypeId) (K : Keyed P k) (mkK : α → Value) (mkV : β → Value)
    (b r n : Nat) (M : Lit → Option Value) (left : Lit → Bool) (cnt : Nat)
    (invK : ∀ key kl, keyOf P k key = some kl → ∃ x, key = mkK x) (invV : ∀ v kl, M kl = some v → ∃ c, v = mkV c)
    (hit : a.eval it = .pointer (some ⟨r, 0, none⟩)) (h : RangeV P k w b r n M left cnt)
    (hDone : cnt = 0 → (∀ kl, left kl = false) → wpList P ops Q rest (a.put o.dst (.tuple #[.bool false])) w)
    (hMore : ∀ (x : α) (c : β) (kl : Lit) (w' : World) (cnt' : Nat), keyOf P k (mkK x) = some kl → left kl = true → M kl = some (mkV c) → RangeV P k w' b r n M (fun z => left z && !z.sameKey kl) cnt' → cnt' < cnt →
      w.grownBy w' (some r) → w'.heap.size = w.heap.size → (Instr.entry (.pointer (some ⟨r, 0, none⟩))).run P w' = .ok (.tuple #[mkK x, mkV c]) w' → wpList P ops Q rest (a.put o.dst (.tuple #[.bool true, mkK x, mkV c])) w') :
    wpList P ops Q (o :: rest) a w := by
  refine wpList_plain hg fun K' hK' => ?_
  unfold Oper.wp
  rcases h.next K o.type with ⟨h0, hl, hrun⟩ | ⟨key, v, kl, w', cnt', hkey, hlk, hv, hrun, hrg, hlt, hgr, hsz, hen⟩
  · simp [execOp, hop, hit, hrun, Result.andThen]
    exact hK' _ _ (hDone h0 hl)
  · obtain ⟨x, rfl⟩ := invK key kl hkey
    obtain ⟨c, rfl⟩ := invV v kl hv
    simp [execOp, hop, hit, hrun, Result.andThen]
    exact hK' _ _ (hMore x c kl w' cnt' hkey hlk hv hrg hlt hgr hsz hen)

/-- 'delete(m, k)' in the round. -/
theorem op_delete_range (hg : o.guard = none) (m x : Operand) (t k : TypeId) (hop : o.op = Op.call { callee := Callee.builtin Builtin.delete, args := #[m, x], argTypes := #[t, k] })
    (e : TypeId) (K : Keyed P k) (ht : P.underlying t = some (.map k e)) (b r n : Nat) (M : Lit → Option Value) (left : Lit → Bool) (cnt : Nat)
    (hm : a.eval m = .map (some b)) (h : RangeV P k w b r n M left cnt) (key : Value) (kl : Lit) (hx : a.eval x = key) (hkey : keyOf P k key = some kl)
    (hK : ∀ w' cnt', RangeV P k w' b r n (upd M kl none) (fun z => left z && !z.sameKey kl) cnt' → cnt' ≤ cnt → w.mapTurned w' b → wpList P ops Q rest (a.put o.dst (.tuple #[])) w') :
    wpList P ops Q (o :: rest) a w := by
  refine wpList_plain hg fun K' hK' => ?_
  obtain ⟨w', cnt', hrun, r1, r2, r3⟩ := h.drop K ht hkey o.type
  unfold Oper.wp
  simp [execOp, hop, resolve, invoke, builtin, hm, hx, hrun, Result.andThen]
  exact hK' _ _ (hK w' cnt' r1 r2 r3)

/-- 'm[k] = v' in the round, at a key that is there. -/
theorem op_store_range (hg : o.guard = none) (m x v : Operand) (t : TypeId) (hop : o.op = Op.mapUpdate t m x v)
    (k e : TypeId) (K : Keyed P k) (ht : P.underlying t = some (.map k e)) (b r n : Nat) (M : Lit → Option Value) (left : Lit → Bool) (cnt : Nat)
    (hm : a.eval m = .map (some b)) (h : RangeV P k w b r n M left cnt) (hn : n < maxLen) (key val : Value) (kl : Lit) (hx : a.eval x = key) (hv : a.eval v = val) (hkey : keyOf P k key = some kl) (hs : (M kl).isSome = true)
    (hK : ∀ w', RangeV P k w' b r n (upd M kl (some val)) left cnt → w.mapTurned w' b → wpList P ops Q rest (a.put o.dst undef) w') :
    wpList P ops Q (o :: rest) a w := by
  refine wpList_plain hg fun K' hK' => ?_
  obtain ⟨w', hrun, r1, r2⟩ := h.store K ht hn val hkey hs
  unfold Oper.wp
  simp [execOp, hop, hm, hx, hv, hrun, Result.andThen]
  exact hK' _ _ (hK w' r1 r2)
end

theorem keyOf_string_inv {P : Program} {k : TypeId} (hk : P.underlying k = some .string) {key : Value} {kl : Lit} (h : keyOf P k key = some kl) : ∃ s : ByteArray, key = .string s ∧ kl = .string s.data.toList ∧ s.size ≤ maxLen := by
  cases key <;> simp [keyOf, hk, mapKey] at h
  obtain ⟨hw, rfl⟩ := h
  exact ⟨_, rfl, rfl, hw⟩
end Go.Proofs.Ytjcmmlbonljcnaa.Mv
