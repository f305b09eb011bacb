/- A row of bytes that the call owns and whose block may bear a conversion's mark behind its last cell: append serves it. -/
import Derived.Test.YtmbfapgamcbajaaDoorWWords
import Derived.Lib.AppendStr
import Derived.Laws.CopyRow
import Derived.Lib.ConvBytes
set_option linter.unusedVariables false
set_option linter.unusedSimpArgs false
namespace Go.Proofs.YtmbfapgamcbajaaDoor.X
open Go.RowKit Go.Lib Go.Proofs.YtmbfapgamcbajaaDoorW.PrintWords

/-- Nothing of the block's n cells is frozen. -/
def Mk (fz : Nat × Nat) (n : Nat) : Prop := fz.2 = 0 ∨ n ≤ fz.1

/-- v owns the bytes xs. -/
def OwnM (w : World) (base : Nat) (e : TypeId) (v : Value) (xs : List Value) : Prop :=
  (v = .slice none 0 0 ∧ xs = []) ∨
   ∃ g cap cur fz, v = .slice (some ⟨g, 0, none⟩) xs.length cap ∧ base ≤ g ∧ w.heap[g]? = some (.cells cur e fz) ∧ Mk fz cap ∧ xs.length ≤ cap ∧ cap ≤ maxLen ∧ cur.size = cap ∧ cur.toList.take xs.length = xs

theorem mk_free {w : World} {g : Nat} {cur : Array Value} {t : TypeId} {fz : Nat × Nat} {i : Nat} (hg : w.heap[g]? = some (.cells cur t fz)) (hm : Mk fz cur.size) (hi : i < cur.size) : w.frozen? ⟨g, i, none⟩ = false := by
  obtain ⟨lo, hi'⟩ := fz
  simp only [World.frozen?, hg, Bool.and_eq_false_iff, decide_eq_false_iff_not]
  rcases hm with h | h
  · right
    simp only at h
    omega
  · left
    simp only at h
    omega

theorem storeCells_M (P : Program) (g o : Nat) (t : TypeId) (fz : Nat × Nat) : ∀ (vs : List Value) (i : Nat) (cur : Array Value) (w : World), w.heap[g]? = some (.cells cur t fz) → Mk fz cur.size → o + i + vs.length ≤ cur.size → (∀ v ∈ vs, v.oneCell' = true) →
    (storeCells ⟨g, o, none⟩ vs i).run P w = .ok () (w.setRow g (cur.toList.take (o + i) ++ vs ++ cur.toList.drop (o + i + vs.length)).toArray)
  | [], i, cur, w, hg, _, _, _ => by
    simp only [storeCells, List.append_nil, List.length_nil, Nat.add_zero, List.take_append_drop, Array.toArray_toList]
    rw [setRow_self w g cur t fz hg]
    rfl
  | v :: rest, i, cur, w, hg, hm, hl, h1 => by
    have hi : o + i < cur.size := by simp at hl; omega
    have hadd : (⟨g, o, none⟩ : Addr).add i = ⟨g, o + i, none⟩ := by unfold Addr.add; split <;> simp_all
    have hcell : w.cell? ⟨g, o + i, none⟩ = some cur[o + i] := by simp [World.cell?, hg, hi]
    have hst : (store ((⟨g, o, none⟩ : Addr).add i) v).run P w = .ok () (w.setRow g (cur.setIfInBounds (o + i) v)) := by
      rw [hadd, run_store P w _ v _ (h1 v (by simp)), hcell]
      simp [mk_free hg hm hi, setCell_eq_setRow w g (o + i) cur t fz v hg]
    have ih := storeCells_M P g o t fz rest (i + 1) (cur.setIfInBounds (o + i) v) (w.setRow g (cur.setIfInBounds (o + i) v)) (setRow_heap w g cur _ t _ hg) (by simpa using hm) (by simp at hl ⊢; omega) (fun x hx => h1 x (by simp [hx]))
    simp only [storeCells, Sem.run_bind, hst, Result.andThen_ok, ih, setRow_setRow]
    congr 3
    have e := list_seg_step cur.toList (o + i) v rest (by simp at hl ⊢; omega)
    simpa [Array.toList_setIfInBounds, Nat.add_assoc] using e

namespace OwnM
variable {w w1 : World} {base : Nat} {e : TypeId} {v : Value} {xs : List Value}
theorem of_own {n : Nat} (h : w.ownsRow base e 1 v n xs) : OwnM w base e v xs := by
  obtain ⟨h1, h2⟩ := h
  have hn : xs.length = n := by omega
  subst hn
  rcases h2 with ⟨rfl, h0⟩ | ⟨g, cap, cur, rfl, hb, hg, hc, hm, hs, ht⟩
  · exact .inl ⟨rfl, List.eq_nil_of_length_eq_zero h0⟩
  · exact .inr ⟨g, cap, cur, (0, 0), rfl, hb, hg, .inl rfl, hc, hm, by omega, by simpa using ht⟩
theorem lt (h : OwnM w base e v xs) : ∀ k, v.ownBlock = some k → base ≤ k ∧ k < w.heap.size ∧ ∃ cur fz, w.heap[k]? = some (.cells cur e fz) := by
  intro k hk
  rcases h with ⟨rfl, _⟩ | ⟨g, cap, cur, fz, rfl, hb, hg, _⟩
  · simp [Value.ownBlock] at hk
  · simp [Value.ownBlock] at hk
    subst hk
    exact ⟨hb, (Array.getElem?_eq_some_iff.1 hg).1, cur, fz, hg⟩
theorem move (h : OwnM w base e v xs) (hm : ∀ k, v.ownBlock = some k → w1.heap[k]? = w.heap[k]?) : OwnM w1 base e v xs := by
  rcases h with h | ⟨g, cap, cur, fz, rfl, hb, hg, r⟩
  · exact .inl h
  · exact .inr ⟨g, cap, cur, fz, rfl, hb, (hm g (by simp [Value.ownBlock])).trans hg, r⟩
theorem below (h : OwnM w base e v xs) (hb : Below w.heap.size w w1) : OwnM w1 base e v xs := h.move fun k hk => hb.block k (h.lt k hk).2.1
theorem lower {b : Nat} (h : OwnM w base e v xs) (hb : b ≤ base) : OwnM w b e v xs := by
  rcases h with h | ⟨g, cap, cur, fz, rfl, h1, r⟩
  · exact .inl h
  · exact .inr ⟨g, cap, cur, fz, rfl, by omega, r⟩
theorem cells (h : OwnM w base e v xs) {g : Nat} (hg : v.ownBlock = some g) : ∀ j u, xs[j]? = some u → w.cell? ((⟨g, 0, none⟩ : Addr).add j) = some u := by
  intro j u hu
  rcases h with ⟨rfl, _⟩ | ⟨g', cap, cur, fz, rfl, _, hgg, _, _, _, _, htake⟩
  · simp [Value.ownBlock] at hg
  · simp [Value.ownBlock] at hg
    subst hg
    rw [add_plain, cell_of_row w g' j cur e fz hgg]
    rw [← htake, List.getElem?_take] at hu
    split at hu
    · simpa using hu
    · cases hu
/-- What it reads as. -/
theorem reads {k : IntKind} {l : List Int} (h : OwnM w base e v (nums k l)) : ∃ A c, v = .slice A l.length c ∧ l.length ≤ c ∧ Kd.C (Kd.int k) w A l.length l := by
  have h' := h
  rcases h with ⟨rfl, h0⟩ | ⟨g, cap, cur, fz, rfl, _, hgg, _, hc, hm, _, _⟩
  · have : l = [] := by simpa [nums] using h0
    subst this
    exact ⟨none, 0, rfl, Nat.le_refl _, Kd.C_of_reads (d := (0 : Int)) (h1 := fun _ => rfl) ⟨rfl, by simp, fun h => by simp at h⟩⟩
  · rw [nums_length] at hc
    refine ⟨_, cap, by rw [nums_length], hc, Kd.C_of_reads (d := (0 : Int)) (h1 := fun _ => rfl) ⟨rfl, by simp only [maxLen] at hm; omega, fun _ => ⟨_, rfl, fun j hj => ?_⟩⟩⟩
    exact h'.cells (g := g) rfl j _ (by simp [nums, List.getD_eq_getElem?_getD, List.getElem?_eq_getElem hj])
end OwnM

/-- '[]byte(s)': what it leaves. -/
theorem own_conv (w : World) (e : TypeId) (s : ByteArray) (hs : s.size ≤ maxLen) : OwnM (bytesWorld w e s) w.heap.size e (.slice (some ⟨w.heap.size, 0, none⟩) s.size (grownCap w s.size 0 e)) (nums .u8 (bytesOf s)) := by
  have hge := grownCap_ge w s.size 0 e
  have hl : (nums .u8 (bytesOf s)).length = s.size := by rw [nums_length, bytesOf_length]
  have hsz : (bytesCells w e s).size = grownCap w s.size 0 e := by
    have : s.data.size = s.size := rfl
    simp only [bytesCells, Array.size_append, Array.size_map, Array.size_replicate, this]
    omega
  refine .inr ⟨w.heap.size, _, _, _, by rw [hl], Nat.le_refl _, bytesWorld_at_new w e s, .inr (by rw [hsz]; exact Nat.le_refl _), by rw [hl]; exact hge, grownCap_le_maxLen w _ _ e hs, hsz, ?_⟩
  rw [hl]
  have e1 : (bytesCells w e s).toList = nums .u8 (bytesOf s) ++ List.replicate (grownCap w s.size 0 e - s.size) (.int .u8 0) := by
    simp [bytesCells, nums, bytesOf]
  rw [e1]
  conv => lhs; rw [← hl]
  exact List.take_left

section
variable {P : Program}
/-- A new row. -/
theorem own_grown (w : World) (base : Nat) (e : TypeId) (z : Value) (hz : z.cells.size = 1) (xs ys : List Value) (cap : Nat) (hbase : base ≤ w.heap.size) (h : (xs ++ ys).length ≤ cap) (hm : cap ≤ maxLen) (xa : Array Value) (ha : xa.toList = xs ++ ys ++ (Builtin.zeroCells z.cells (cap - (xs ++ ys).length)).toList) :
    OwnM (w.drew.alloc (.cells xa e)) base e (.slice (some ⟨w.heap.size, 0, none⟩) (xs ++ ys).length cap) (xs ++ ys) := by
  refine .inr ⟨w.heap.size, cap, _, (0, 0), rfl, hbase, heap_alloc_new w.drew _, .inl rfl, h, hm, ?_, ?_⟩
  · have h1 : xa.size = xa.toList.length := by simp
    have h2 : (Builtin.zeroCells z.cells (cap - (xs ++ ys).length)).toList.length = (cap - (xs ++ ys).length) * 1 := by
      rw [← hz]
      exact Array.length_toList.trans (size_zeroCells _ _)
    rw [h1, ha, List.length_append (as := xs ++ ys), h2]
    omega
  · rw [ha]
    exact List.take_left

theorem run_appM_string (w : World) (base : Nat) (t u ty e : TypeId) (i : TypeInfo) (ht : P.underlying t = some (.slice e)) (hu : P.underlying u = some .string) (hi : P.info? e = some i) (hz : i.zero = some (.int .u8 0))
    (hsize : i.size = 1) (hby : i.bytes = 1) (v : Value) (xs : List Value) (hown : OwnM w base e v xs) (s : ByteArray) (hbytes : xs.length + s.size ≤ 140737488355328) (hbase : base ≤ w.heap.size) :
    ∃ v' w', (Builtin.append_ #[t, u] ty #[v, .string s]).run P w = .ok v' w' ∧ OwnM w' base e v' (xs ++ strCells s) ∧ w.grownBy w' v.ownBlock := by
  have h63 : xs.length + s.size ≤ maxLen := by simp only [maxLen]; omega
  have hlen : (xs ++ strCells s).length = xs.length + s.size := by rw [List.length_append, strCells_length]
  rcases hown with ⟨rfl, rfl⟩ | ⟨g, cap, cur, fz, rfl, hbg, hg, hm, hnc, hcm, hcs, htake⟩
  · obtain ⟨v', w', h1, h2, h3, h4⟩ := run_append_own_string (P := P) w base t u ty e i ht hu hi hz hsize hby (.slice none 0 0) 0 [] ⟨rfl, .inl ⟨rfl, rfl⟩⟩ s (by simpa using h63) (by simpa using hbytes) hbase
    exact ⟨v', w', h1, OwnM.of_own h2, h3⟩
  · by_cases hroom : xs.length + s.size ≤ cap
    · have hf := run_firstCells_string (P := P) w 1 s
      have hst := storeCells_M P g xs.length e fz (strCells s) 0 cur w hg (by rw [hcs]; exact hm) (by rw [strCells_length]; omega) (strCells_oneCell s)
      simp only [Nat.add_zero, strCells_length] at hst
      have hr : (Builtin.append_ #[t, u] ty #[.slice (some ⟨g, 0, none⟩) xs.length cap, .string s]).run P w = .ok (.slice (some ⟨g, 0, none⟩) (xs.length + s.size) cap) (w.setRow g (cur.toList.take xs.length ++ strCells s ++ cur.toList.drop (xs.length + s.size)).toArray) := by
        simp [Builtin.append_, run_underlying ht, run_underlying hu, sizeOf, typeInfo, hi, hsize, Builtin.lenOf, hroom, hf, Addr.add_lit, hst]
      refine ⟨_, _, hr, .inr ⟨g, cap, _, fz, by rw [hlen], hbg, setRow_heap w g cur _ e _ hg, hm, by omega, hcm, ?_, ?_⟩, ⟨rfl, rfl, rfl, by simp, fun k _ hk => setRow_other w g k _ (fun e => hk (by simp [Value.ownBlock, e]))⟩⟩
      · simp only [List.size_toArray, List.length_append, List.length_take, List.length_drop, Array.length_toList, strCells_length]
        omega
      · rw [htake]
        exact List.take_left
    · have holds := OwnM.cells (.inr ⟨g, cap, cur, fz, rfl, hbg, hg, hm, hnc, hcm, hcs, htake⟩ : OwnM w base e _ xs) (g := g) rfl
      have hr := run_append_grow_string (P := P) w t u ty e i (.int .u8 0) ht hu hi hz ⟨g, 0, none⟩ xs.length cap xs (by rw [hsize]; simp) holds s (by omega) (by simp only [maxLen] at h63; omega) (by rw [hby]; exact growslice_fits (by omega) (by omega))
      have hge := grownCap_ge w (xs.length + s.size) cap e
      refine ⟨_, _, hr, ?_, ⟨rfl, rfl, rfl, by simp, fun k hk _ => Below.heap_alloc w.drew _ k hk⟩⟩
      have := own_grown w base e (.int .u8 0) rfl xs (strCells s) (grownCap w (xs.length + s.size) cap e) hbase (by rw [hlen]; exact hge) (grownCap_le_maxLen w _ _ e h63) (xs.toArray ++ (strCells s).toArray ++ Builtin.zeroCells (Value.int .u8 0).cells (grownCap w (xs.length + s.size) cap e - (xs.length + s.size))) (by rw [hlen]; simp)
      rw [hlen] at this
      exact this

theorem run_appM_row (w : World) (base : Nat) (t ty e : TypeId) (i : TypeInfo) (z : Value) (ht : P.underlying t = some (.slice e)) (hi : P.info? e = some i) (hz : i.zero = some z) (hzs : z.cells.size = 1)
    (hsize : i.size = 1) (hby : i.bytes = 1) (v : Value) (xs : List Value) (hown : OwnM w base e v xs) (a : Addr) (m c : Nat) (news : List Value) (hl : news.length = m) (hnews : ∀ j u, news[j]? = some u → w.cell? (a.add j) = some u) (h1 : ∀ u ∈ news, u.oneCell' = true) (hbytes : xs.length + m ≤ 140737488355328) (hbase : base ≤ w.heap.size) :
    ∃ v' w', (Builtin.append_ #[t, t] ty #[v, .slice (some a) m c]).run P w = .ok v' w' ∧ OwnM w' base e v' (xs ++ news) ∧ w.grownBy w' v.ownBlock := by
  have h63 : xs.length + m ≤ maxLen := by simp only [maxLen]; omega
  have hlen : (xs ++ news).length = xs.length + m := by rw [List.length_append, hl]
  rcases hown with ⟨rfl, rfl⟩ | ⟨g, cap, cur, fz, rfl, hbg, hg, hm, hnc, hcm, hcs, htake⟩
  · obtain ⟨v', w', h1, h2, h3, h4⟩ := run_append_own (P := P) w base t ty e i z 1 1 ht hi hz hsize hby hzs (by decide) (.slice none 0 0) 0 [] ⟨rfl, .inl ⟨rfl, rfl⟩⟩ a m c news (by omega) hnews h1 (by simpa using h63) (by simpa using hbytes) hbase
    exact ⟨v', w', h1, OwnM.of_own h2, h3⟩
  · by_cases hroom : xs.length + m ≤ cap
    · have hf := run_firstCells_some (P := P) w 1 m a m c news (by omega) hnews
      have hst := storeCells_M P g xs.length e fz news 0 cur w hg (by rw [hcs]; exact hm) (by omega) h1
      simp only [Nat.add_zero, hl] at hst
      have hr : (Builtin.append_ #[t, t] ty #[.slice (some ⟨g, 0, none⟩) xs.length cap, .slice (some a) m c]).run P w = .ok (.slice (some ⟨g, 0, none⟩) (xs.length + m) cap) (w.setRow g (cur.toList.take xs.length ++ news ++ cur.toList.drop (xs.length + m)).toArray) := by
        simp [Builtin.append_, run_underlying ht, sizeOf, typeInfo, hi, hsize, Builtin.lenOf, hroom, hf, Addr.add_lit, hst]
      refine ⟨_, _, hr, .inr ⟨g, cap, _, fz, by rw [hlen], hbg, setRow_heap w g cur _ e _ hg, hm, by omega, hcm, ?_, ?_⟩, ⟨rfl, rfl, rfl, by simp, fun k _ hk => setRow_other w g k _ (fun e => hk (by simp [Value.ownBlock, e]))⟩⟩
      · simp only [List.size_toArray, List.length_append, List.length_take, List.length_drop, Array.length_toList, hl]
        omega
      · rw [htake]
        exact List.take_left
    · have holds := OwnM.cells (.inr ⟨g, cap, cur, fz, rfl, hbg, hg, hm, hnc, hcm, hcs, htake⟩ : OwnM w base e _ xs) (g := g) rfl
      have hr := run_append_grow (P := P) w t ty e i z ht hi hz ⟨g, 0, none⟩ xs.length cap xs (by rw [hsize]; simp) holds a m c news (by rw [hsize, hl]; simp) hnews (by omega) (by simp only [maxLen] at h63; omega) (by rw [hby]; exact growslice_fits (by omega) (by omega))
      have hge := grownCap_ge w (xs.length + m) cap e
      refine ⟨_, _, hr, ?_, ⟨rfl, rfl, rfl, by simp, fun k hk _ => Below.heap_alloc w.drew _ k hk⟩⟩
      have := own_grown w base e z hzs xs news (grownCap w (xs.length + m) cap e) hbase (by rw [hlen]; exact hge) (grownCap_le_maxLen w _ _ e h63) (xs.toArray ++ news.toArray ++ Builtin.zeroCells z.cells (grownCap w (xs.length + m) cap e - (xs.length + m))) (by rw [hlen]; simp)
      rw [hlen] at this
      exact this
/-- append(b, none...). -/
theorem run_appM_none (w : World) (base : Nat) (t ty e : TypeId) (i : TypeInfo) (ht : P.underlying t = some (.slice e)) (hi : P.info? e = some i) (hsize : i.size = 1) (v : Value) (xs : List Value) (hown : OwnM w base e v xs) (c : Nat) :
    ∃ v' w', (Builtin.append_ #[t, t] ty #[v, .slice none 0 c]).run P w = .ok v' w' ∧ OwnM w' base e v' xs ∧ w.grownBy w' v.ownBlock := by
  refine ⟨v, w, ?_, hown, ⟨rfl, rfl, rfl, Nat.le_refl _, fun _ _ _ => rfl⟩⟩
  rcases hown with ⟨rfl, rfl⟩ | ⟨g, cap, cur, fz, rfl, hbg, hg, hm, hnc, hcm, hcs, htake⟩
  · simp [Builtin.append_, run_underlying ht, sizeOf, typeInfo, hi, Builtin.lenOf, Builtin.firstCells, loadCells, loadCellsFrom]
  · simp [Builtin.append_, run_underlying ht, sizeOf, typeInfo, hi, Builtin.lenOf, Builtin.firstCells, loadCells, loadCellsFrom, hnc, storeCells]
end

section
variable {P : Program} {ops : Array Oper} {rest : List Oper} {o : Oper} {a : Act} {Q : Exit → Act → World → Prop}
/-- append(b, s...), for the walk. -/
theorem appM_string {w0 W : World} (base : Nat) (hgd : o.guard = none) (s x : Operand) (t u e : TypeId)
    (ho : o.op = .call { callee := .builtin .append, args := #[s, x], argTypes := #[t, u] })
    (ht : P.underlying t = some (.slice e)) (hu : P.underlying u = some .string) (hinfo : (P.info? e).map (fun i => (i.zero, i.size, i.bytes)) = some (some (.int .u8 0), 1, 1))
    (v : Value) (l : List Int) (y : ByteArray) (hs : a.eval s = v) (hx : a.eval x = .string y)
    (HO : OwnM W base e v (nums .u8 l)) (HB : Below base w0 W) (hbase : base ≤ W.heap.size) (hl : l.length + y.size ≤ 140737488355328)
    (h : ∀ v1 w1, OwnM w1 base e v1 (nums .u8 (l ++ bytesOf y)) → Below base w0 w1 → W.grownBy w1 v.ownBlock → wpList P ops Q rest (a.put o.dst v1) w1) :
    wpList P ops Q (o :: rest) a W := by
  obtain ⟨i0, hi, hzz⟩ := Option.map_eq_some_iff.1 hinfo
  simp only [Prod.mk.injEq] at hzz
  obtain ⟨hz0, hz1, hz2⟩ := hzz
  refine wpList_plain hgd fun K hK => ?_
  obtain ⟨v', w', hr, h2, h3⟩ := run_appM_string (P := P) W base t u o.type e i0 ht hu hi hz0 hz1 hz2 v _ HO y (by rw [nums_length]; exact hl) hbase
  unfold Oper.wp execOp
  simp only [ho, resolve, invoke, builtin, Sem.run_bind, Sem.run_pure, Result.andThen_ok, List.map_toArray, List.map_cons, List.map_nil, hs, hx, hr]
  have hc : nums .u8 (l ++ bytesOf y) = nums .u8 l ++ Lib.strCells y := by
    rw [nums_append]
    congr 1
    simp [nums, bytesOf, Lib.strCells]
  exact hK _ _ (h v' w' (by rw [hc]; exact h2) (HB.grown h3 hbase (fun k hk => (HO.lt k hk).1)) h3)
/-- append(b, c...), for the walk. -/
theorem appM_row {w0 W : World} (base : Nat) (hgd : o.guard = none) (s x : Operand) (t e : TypeId)
    (ho : o.op = .call { callee := .builtin .append, args := #[s, x], argTypes := #[t, t] })
    (ht : P.underlying t = some (.slice e)) (hinfo : (P.info? e).map (fun i => (i.zero, i.size, i.bytes)) = some (some (.int .u8 0), 1, 1))
    (v : Value) (l y : List Int) (A : Option Addr) (c : Nat) (hs : a.eval s = v) (hx : a.eval x = .slice A y.length c) (HY : Kd.C (Kd.int .u8) W A y.length y)
    (HO : OwnM W base e v (nums .u8 l)) (HB : Below base w0 W) (hbase : base ≤ W.heap.size) (hl : l.length + y.length ≤ 140737488355328)
    (h : ∀ v1 w1, OwnM w1 base e v1 (nums .u8 (l ++ y)) → Below base w0 w1 → W.grownBy w1 v.ownBlock → wpList P ops Q rest (a.put o.dst v1) w1) :
    wpList P ops Q (o :: rest) a W := by
  obtain ⟨i0, hi, hzz⟩ := Option.map_eq_some_iff.1 hinfo
  simp only [Prod.mk.injEq] at hzz
  obtain ⟨hz0, hz1, hz2⟩ := hzz
  refine wpList_plain hgd fun K hK => ?_
  have hrun : ∃ v' w', (Builtin.append_ #[t, t] o.type #[v, .slice A y.length c]).run P W = .ok v' w' ∧ OwnM w' base e v' (nums .u8 l ++ nums .u8 y) ∧ W.grownBy w' v.ownBlock := by
    obtain ⟨hy1, hy2, hy3⟩ := Kd.reads_of_C (d := (0 : Int)) HY
    cases A with
    | some ad =>
      refine run_appM_row (P := P) W base t o.type e i0 (.int .u8 0) ht hi hz0 rfl hz1 hz2 v _ HO ad y.length c (nums .u8 y) (nums_length _ _) (fun j u hu => ?_) (fun u hu => ?_) (by rw [nums_length]; exact hl) hbase
      · have hj : j < y.length := by have := (List.getElem?_eq_some_iff.1 hu).1; rwa [nums_length] at this
        obtain ⟨ad', e1, hc⟩ := hy3 (by omega)
        cases e1
        rw [hc j hj]
        rw [← hu]
        simp [nums, List.getD_eq_getElem?_getD, List.getElem?_eq_getElem hj]
      · simp only [nums, List.mem_map] at hu
        obtain ⟨q, _, rfl⟩ := hu
        rfl
    | none =>
      have h0 : y = [] := by
        cases y with
        | nil => rfl
        | cons q l' => obtain ⟨ad, e1, _⟩ := hy3 (by simp); cases e1
      subst h0
      obtain ⟨v', w', hr, h2, h3⟩ := run_appM_none (P := P) W base t o.type e i0 ht hi hz1 v _ HO c
      exact ⟨v', w', hr, by simpa [nums] using h2, h3⟩
  obtain ⟨v', w', hr, h2, h3⟩ := hrun
  unfold Oper.wp execOp
  simp only [ho, resolve, invoke, builtin, Sem.run_bind, Sem.run_pure, Result.andThen_ok, List.map_toArray, List.map_cons, List.map_nil, hs, hx, hr]
  exact hK _ _ (h v' w' (by rw [nums_append]; exact h2) (HB.grown h3 hbase (fun k hk => (HO.lt k hk).1)) h3)
end
end Go.Proofs.YtmbfapgamcbajaaDoor.X
