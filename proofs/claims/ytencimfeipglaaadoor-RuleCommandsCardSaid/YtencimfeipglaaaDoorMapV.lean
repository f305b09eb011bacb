/- A map in memory, told as a function from keys to values: look-up, store, delete, length, and ranging over it. -/
import Derived.Maps.RangeWalk
import Derived.WalkKit
import Derived.KernelRfl
set_option linter.unusedVariables false
set_option linter.unusedSimpArgs false
namespace Go.Proofs.YtencimfeipglaaaDoor.Mv
open Go.RowKit Go.Maps Go.ChangeMaps Go.MapKept Go.WideShapes

/-- An element as it stands. -/
def heldR (v : Value) : Option (DataW Value × List MemPlace) := some (.held v, [])

/-- What a map's datum has at a key. -/
def look (D : DataW Value) (kl : Lit) : Option Value :=
  match D.atKey kl .nil with
  | .held v => some v
  | _ => none

/-- Block m of w is a map with keys of type k, of at most n entries, that has M. -/
def MapV (P : Program) (k : TypeId) (w : World) (m n : Nat) (M : Lit → Option Value) : Prop :=
  ∃ D : DataW Value, w.ownsMap P k heldR m n D ∧ ∀ kl, M kl = look D kl

open Classical in
noncomputable def upd (M : Lit → Option Value) (kl : Lit) (v : Option Value) : Lit → Option Value := fun x => if x = kl then v else M x

theorem upd_same (M : Lit → Option Value) (kl : Lit) (v : Option Value) : upd M kl v kl = v := by simp [upd]
theorem upd_other (M : Lit → Option Value) {kl x : Lit} (v : Option Value) (h : x ≠ kl) : upd M kl v x = M x := by simp [upd, h]

section
variable {P : Program} {k : TypeId} {w w1 : World} {m n : Nat} {M : Lit → Option Value} {D : DataW Value}

theorem MapV.made (w : World) (P : Program) (k : TypeId) : MapV P k (w.alloc (.map #[] 0)) w.heap.size 0 (fun _ => none) :=
  ⟨_, World.ownsMap_made w P k heldR, fun kl => by simp [look, DataW.atKey]⟩

theorem MapV.mono (h : MapV P k w m n M) {n' : Nat} (hn : n ≤ n') : MapV P k w m n' M := by
  obtain ⟨D, h, hM⟩ := h
  exact ⟨D, h.mono hn, hM⟩

/-- The block is as it was. -/
theorem MapV.same (h : MapV P k w m n M) (hb : w1.heap[m]? = w.heap[m]?) : MapV P k w1 m n M := by
  obtain ⟨D, ⟨es, clock, h1, h2⟩, hM⟩ := h
  exact ⟨D, ⟨es, clock, hb.trans h1, h2⟩, hM⟩

theorem look_of (h : w.ownsMap P k heldR m n D) (K : Keyed P k) {t e : TypeId} (ht : P.underlying t = some (.map k e)) {z : Value} (hz : (zeroValue e).run P w = .ok z w) {key : Value} {kl : Lit} (hkey : keyOf P k key = some kl) (c : Bool) :
    ((Instr.lookup t (.map (some m)) key c).run P w = .ok (if c then .tuple #[(look D kl).getD z, .bool (look D kl).isSome] else (look D kl).getD z) w) ∧ (∀ kz, look D kl = none → D.atKey kl kz = kz) ∧ (∀ kz v, look D kl = some v → D.atKey kl kz = .held v) ∧ (look D kl).isSome = Maps.has D kl := by
  obtain ⟨es, clock, hb, F, _, rfl⟩ := h
  rcases Maps.fit_look c K ht hz hb F hkey with ⟨hrun, _, hat⟩ | ⟨e0, y, _, _, hrun, hRv, hat, _⟩
  · have h0 : look (DataW.map ((es.toList.map (WideElems.rg P k heldR)).foldr DataW.insert [])) kl = none := by simp [look, hat]
    rw [h0]
    refine ⟨by simpa using hrun, fun kz _ => hat kz, fun kz v h => (by cases h), ?_⟩
    rw [Maps.has_false_of_atKey hat]; rfl
  · obtain rfl : (.held e0.val, []) = y := by simpa [heldR] using hRv
    have h0 : look (DataW.map ((es.toList.map (WideElems.rg P k heldR)).foldr DataW.insert [])) kl = some e0.val := by simp [look, hat]
    rw [h0]
    refine ⟨by simpa using hrun, fun kz h => (by cases h), fun kz v h => (by cases h; exact hat kz), ?_⟩
    rw [Maps.has_true_of_atKey hat]; rfl

theorem MapV.lookup (h : MapV P k w m n M) (K : Keyed P k) {t e : TypeId} (ht : P.underlying t = some (.map k e)) {z : Value} (hz : (zeroValue e).run P w = .ok z w) {key : Value} {kl : Lit} (hkey : keyOf P k key = some kl) :
    (Instr.lookup t (.map (some m)) key false).run P w = .ok ((M kl).getD z) w ∧ (Instr.lookup t (.map (some m)) key true).run P w = .ok (.tuple #[(M kl).getD z, .bool (M kl).isSome]) w := by
  obtain ⟨D, h, hM⟩ := h
  rw [hM]
  exact ⟨by simpa using (look_of h K ht hz hkey false).1, by simpa using (look_of h K ht hz hkey true).1⟩

theorem MapV.store (h : MapV P k w m n M) (K : Keyed P k) {t e : TypeId} (ht : P.underlying t = some (.map k e)) (hn : n < maxLen) {key : Value} (val : Value) {kl : Lit} (hkey : keyOf P k key = some kl) :
    ∃ w', (Instr.mapUpdate t (.map (some m)) key val).run P w = .ok () w' ∧ MapV P k w' m (n + 1) (upd M kl (some val)) ∧ w.mapTurned w' m := by
  obtain ⟨D, h, hM⟩ := h
  obtain ⟨w', h1, h2, h3⟩ := h.store K ht hn (d := .held val) (ps := []) hkey rfl
  refine ⟨w', h1, ⟨_, h2, fun x => ?_⟩, h3⟩
  unfold upd
  split
  · rename_i hx
    subst hx
    simp [look, Maps.atKey_put_same h.isMap (K.key hkey)]
  · rename_i hx
    rw [hM]
    simp [look, Maps.atKey_put_other hx]

theorem MapV.drop (h : MapV P k w m n M) (K : Keyed P k) {t e : TypeId} (ht : P.underlying t = some (.map k e)) {key : Value} {kl : Lit} (hkey : keyOf P k key = some kl) (ty : TypeId) :
    ∃ w', (Builtin.delete_ #[t, k] ty #[.map (some m), key]).run P w = .ok (.tuple #[]) w' ∧ MapV P k w' m n (upd M kl none) ∧ w.mapTurned w' m := by
  obtain ⟨D, h, hM⟩ := h
  obtain ⟨w', h1, h2, h3⟩ := h.drop K ht hkey ty
  refine ⟨w', h1, ⟨_, h2, fun x => ?_⟩, h3⟩
  unfold upd
  split
  · rename_i hx
    subst hx
    simp [look, Maps.atKey_del_same]
  · rename_i hx
    rw [hM]
    simp [look, Maps.atKey_del_other hx]

/-- How many keys there are. -/
def Card (M : Lit → Option Value) (c : Nat) : Prop := ∃ ks : List Lit, ks.Nodup ∧ (∀ x, x ∈ ks ↔ (M x).isSome = true) ∧ ks.length = c

theorem look_mem {es : List (Lit × DataW Value)} (hd : es.Pairwise (fun p q => p.1 ≠ q.1)) (hk : ∀ p ∈ es, WideAt.IsKeyLit p.1) (hv : ∀ p ∈ es, ∃ v, p.2 = .held v) (x : Lit) : x ∈ es.map (·.1) ↔ (look (.map es) x).isSome = true := by
  constructor
  · intro hx
    obtain ⟨p, hp, rfl⟩ := List.mem_map.1 hx
    have : ∃ q, es.find? (fun q => q.1.sameKey p.1) = some q := by
      rw [← Option.isSome_iff_exists, List.find?_isSome]
      exact ⟨p, hp, WideAt.sameKey_self (hk p hp)⟩
    obtain ⟨q, hq⟩ := this
    obtain ⟨v, hv⟩ := hv q (List.mem_of_find?_eq_some hq)
    simp [look, DataW.atKey, hq, hv]
  · intro hx
    have : ∃ q, es.find? (fun q => q.1.sameKey x) = some q := by
      cases hf : es.find? (fun q => q.1.sameKey x) with
      | none => simp [look, DataW.atKey, hf] at hx
      | some q => exact ⟨q, rfl⟩
    obtain ⟨q, hq⟩ := this
    have := List.find?_some hq
    exact List.mem_map.2 ⟨q, List.mem_of_find?_eq_some hq, WideAt.sameKey_eq this⟩

theorem own_entries (h : w.ownsMap P k heldR m n D) (K : Keyed P k) : ∃ es, D = .map es ∧ es.Pairwise (fun p q => p.1 ≠ q.1) ∧ (∀ p ∈ es, WideAt.IsKeyLit p.1) ∧ (∀ p ∈ es, ∃ v, p.2 = .held v) ∧ (∀ p ∈ es, ∃ key, keyOf P k key = some p.1) := by
  obtain ⟨es, clock, hb, F, hs, rfl⟩ := h
  have hr : ∀ p ∈ (es.toList.map (WideElems.rg P k heldR)).foldr DataW.insert [], ∃ x ∈ es.toList, WideElems.rg P k heldR x = p := fun p hp => by
    obtain ⟨x, hx, hxp⟩ := List.mem_map.1 (mem_sorted.1 hp)
    exact ⟨x, hx, hxp⟩
  refine ⟨_, rfl, ((sorted_perm _).pairwise_iff (fun {_ _} hne => Ne.symm hne)).2 (Maps.fit_apart K F), fun p hp => ?_, fun p hp => ?_, fun p hp => ?_⟩
  · obtain ⟨x, hx, rfl⟩ := hr p hp
    obtain ⟨y, hy⟩ := F.reads x hx
    rw [WideElems.rg_of hy]
    exact K.key (WideElems.rd_key hy)
  · obtain ⟨x, hx, rfl⟩ := hr p hp
    obtain ⟨y, hy⟩ := F.reads x hx
    rw [WideElems.rg_of hy]
    obtain ⟨z, hz, hz1⟩ := WideElems.rd_val hy
    refine ⟨x.val, ?_⟩
    have : (DataW.held x.val, []) = z := by simpa [heldR] using hz
    rw [hz1, ← this]
  · obtain ⟨x, hx, rfl⟩ := hr p hp
    obtain ⟨y, hy⟩ := F.reads x hx
    rw [WideElems.rg_of hy]
    exact ⟨x.key, WideElems.rd_key hy⟩

/-- A range over the map under way: 'left': which keys are still to come. -/
def RangeV (P : Program) (k : TypeId) (w : World) (m r n : Nat) (M : Lit → Option Value) (left : Lit → Bool) (cnt : Nat) : Prop :=
  ∃ D : DataW Value, w.ranges P k heldR m r n D left cnt ∧ ∀ kl, M kl = look D kl

theorem RangeV.map {r : Nat} {left : Lit → Bool} {cnt : Nat} (h : RangeV P k w m r n M left cnt) : MapV P k w m n M := by
  obtain ⟨D, h, hM⟩ := h
  exact ⟨D, h.owns, hM⟩
theorem RangeV.ne {r : Nat} {left : Lit → Bool} {cnt : Nat} (h : RangeV P k w m r n M left cnt) : r ≠ m := by
  obtain ⟨D, h, hM⟩ := h
  exact h.ne
theorem RangeV.same {r : Nat} {left : Lit → Bool} {cnt : Nat} (h : RangeV P k w m r n M left cnt) (hb : w1.heap[m]? = w.heap[m]?) (hr : w1.heap[r]? = w.heap[r]?) : RangeV P k w1 m r n M left cnt := by
  obtain ⟨D, ⟨es, clock, since, seen, c0, h1, h2, h3, h4, h5, rest⟩, hM⟩ := h
  exact ⟨D, ⟨es, clock, since, seen, c0, hb.trans h1, h2, h3, h4, hr.trans h5, rest⟩, hM⟩

theorem MapV.range (h : MapV P k w m n M) (K : Keyed P k) {t e : TypeId} (ht : P.underlying t = some (.map k e)) :
    ∃ w' left cnt, (Instr.range t (.map (some m))).run P w = .ok (.pointer (some ⟨w.heap.size, 0, none⟩)) w' ∧ RangeV P k w' m w.heap.size n M left cnt ∧ (∀ kl, (M kl).isSome = true → left kl = true) ∧ cnt ≤ n ∧ w.grownBy w' none ∧ w'.heap.size = w.heap.size + 1 := by
  obtain ⟨D, h, hM⟩ := h
  have h' := h
  obtain ⟨w', h1, h2, h3, h4⟩ := h.range K ht
  refine ⟨w', _, _, h1, ⟨D, h2, hM⟩, fun kl hs => ?_, h.size_le, h3, h4⟩
  obtain ⟨es, rfl, e1, e2, e3, _⟩ := own_entries h' K
  rw [hM] at hs
  obtain ⟨p, hp, rfl⟩ := List.mem_map.1 ((look_mem e1 e2 e3 kl).2 hs)
  exact List.any_eq_true.2 ⟨p, hp, WideAt.sameKey_self (e2 p hp)⟩

theorem RangeV.next {r : Nat} {left : Lit → Bool} {cnt : Nat} (h : RangeV P k w m r n M left cnt) (K : Keyed P k) (ty : TypeId) :
    (cnt = 0 ∧ (∀ kl, left kl = false) ∧ (Instr.next (.pointer (some ⟨r, 0, none⟩)) false ty).run P w = .ok (.tuple #[.bool false]) w) ∨
    ∃ key v kl w' cnt', keyOf P k key = some kl ∧ left kl = true ∧ M kl = some v ∧ (Instr.next (.pointer (some ⟨r, 0, none⟩)) false ty).run P w = .ok (.tuple #[.bool true, key, v]) w' ∧
      RangeV P k w' m r n M (fun x => left x && !x.sameKey kl) cnt' ∧ cnt' < cnt ∧ w.grownBy w' (some r) ∧ w'.heap.size = w.heap.size ∧ (Instr.entry (.pointer (some ⟨r, 0, none⟩))).run P w' = .ok (.tuple #[key, v]) w' := by
  obtain ⟨D, h, hM⟩ := h
  rcases h.next K ty with ⟨h0, hl, hrun⟩ | ⟨key, v, kl, y, w', cnt', hkey, hlk, hv, hat, hrun, hrg, hlt, hgr, hsz, hen⟩
  · exact .inl ⟨h0, hl, hrun⟩
  · refine .inr ⟨key, v, kl, w', cnt', hkey, hlk, ?_, hrun, ⟨D, hrg, hM⟩, hlt, hgr, hsz, hen⟩
    have : (DataW.held v, []) = y := by simpa [heldR] using hv
    rw [hM]
    simp [look, hat, ← this]

theorem RangeV.drop {r : Nat} {left : Lit → Bool} {cnt : Nat} (h : RangeV P k w m r n M left cnt) (K : Keyed P k) {t e : TypeId} (ht : P.underlying t = some (.map k e)) {key : Value} {kl : Lit} (hkey : keyOf P k key = some kl) (ty : TypeId) :
    ∃ w' cnt', (Builtin.delete_ #[t, k] ty #[.map (some m), key]).run P w = .ok (.tuple #[]) w' ∧ RangeV P k w' m r n (upd M kl none) (fun x => left x && !x.sameKey kl) cnt' ∧ cnt' ≤ cnt ∧ w.mapTurned w' m := by
  obtain ⟨D, h, hM⟩ := h
  obtain ⟨w', cnt', h1, h2, h3, h4⟩ := h.drop K ht hkey ty
  refine ⟨w', cnt', h1, ⟨_, h2, fun x => ?_⟩, h3, h4⟩
  unfold upd
  split
  · rename_i hx
    subst hx
    simp [look, Maps.atKey_del_same]
  · rename_i hx
    rw [hM]
    simp [look, Maps.atKey_del_other hx]

/-- A store at a key that is there, in the round: who is still to come does not turn. -/
theorem RangeV.store {r : Nat} {left : Lit → Bool} {cnt : Nat} (h : RangeV P k w m r n M left cnt) (K : Keyed P k) {t e : TypeId} (ht : P.underlying t = some (.map k e)) (hn : n < maxLen) {key : Value} (val : Value) {kl : Lit} (hkey : keyOf P k key = some kl) (hs : (M kl).isSome = true) :
    ∃ w', (Instr.mapUpdate t (.map (some m)) key val).run P w = .ok () w' ∧ RangeV P k w' m r n (upd M kl (some val)) left cnt ∧ w.mapTurned w' m := by
  have hs0 := hs
  obtain ⟨D, h, hM⟩ := h
  obtain ⟨es', hD, e1, e2, e3, _⟩ := own_entries h.owns K
  have hne := h.ne
  have hlk := h.owns
  obtain ⟨es, clock, since, seen, c0, hb, F, hsz, rfl, hr, hold, rfl, hl1, hl2, hsc, hsk⟩ := h
  rcases K.find w hkey es.toList F.keys with ⟨h1, h2⟩ | ⟨j, e0, h1, h2, h3⟩
  · exfalso
    rw [hM, hD, ← look_mem e1 e2 e3] at hs
    obtain ⟨p, hp, hpk⟩ := List.mem_map.1 hs
    have hE : es' = (es.toList.map (WideElems.rg P k heldR)).foldr DataW.insert [] := by injection hD.symm
    rw [hE] at hp
    obtain ⟨x, hx, hxp⟩ := List.mem_map.1 (mem_sorted.1 hp)
    obtain ⟨y, hy⟩ := F.reads x hx
    have hk2 := WideElems.rd_key hy
    have : y.1 = kl := by rw [← hpk, ← hxp, WideElems.rg_of hy]
    rw [this] at hk2
    exact h2 x hx (K.inj hk2 hkey)
  · have hjl : j < es.toList.length := (List.getElem?_eq_some_iff.1 h2).1
    have hjs : j < es.size := by simpa using hjl
    have hj : es[j]? = some e0 := by rw [← Array.getElem?_toList]; exact h2
    let es1 := es.modify j fun e => { e with key := key, val := val }
    have hes1 : es1.toList = es.toList.set j ⟨key, val, e0.born⟩ := by
      apply List.ext_getElem?
      intro i
      simp only [es1, Array.getElem?_toList, Array.getElem?_modify, List.getElem?_set, List.length_set]
      by_cases hij : j = i
      · subst hij
        have : es[j] = e0 := by
          have := hj
          rw [Array.getElem?_eq_getElem hjs] at this
          exact Option.some.inj this
        simp [hjs, this]
      · simp [hij]
    have hmem : ∀ x ∈ es1.toList, (x = ⟨key, val, e0.born⟩) ∨ (x ∈ es.toList ∧ x.key ≠ key) := by
      intro x hx
      rw [hes1] at hx
      obtain ⟨i, hi⟩ := List.getElem?_of_mem hx
      rw [List.getElem?_set] at hi
      split at hi
      · left
        rename_i hij
        first
          | exact (Option.some.inj hi).symm
          | (split at hi
             · exact (Option.some.inj hi).symm
             · cases hi)
      · rename_i hij
        right
        refine ⟨List.mem_of_getElem? hi, ?_⟩
        rw [← h3]
        exact WideElems.other_key F h2 hi (fun h => hij h.symm)
    have he0m : e0 ∈ es.toList := List.mem_of_getElem? h2
    have hborn : es1.toList.map (·.born) = es.toList.map (·.born) := by
      rw [hes1, List.map_set]
      apply List.ext_getElem?
      intro i
      rw [List.getElem?_set]
      split
      · rename_i hij
        subst hij
        have : es[j] = e0 := by
          have := hj
          rw [Array.getElem?_eq_getElem hjs] at this
          exact Option.some.inj this
        simp [hjs, this]
      · rfl
    have hkeys : es1.toList.map (·.key) = es.toList.map (·.key) := by
      rw [hes1, List.map_set]
      apply List.ext_getElem?
      intro i
      rw [List.getElem?_set]
      split
      · rename_i hij
        subst hij
        have : es[j] = e0 := by
          have := hj
          rw [Array.getElem?_eq_getElem hjs] at this
          exact Option.some.inj this
        simp [hjs, this, h3]
      · rfl
    have hrun : (Instr.mapUpdate t (.map (some m)) key val).run P w = .ok () (setBlock w m (.map es1 clock)) := by
      have hst := K.stays w hkey
      simp [Instr.mapUpdate, run_underlying ht, MapKept.run_getObj_map hb, K.check w _ hkey, h1, hj, h3, hst, MapKept.run_setObj_map _ hb, Result.andThen, setBlock, es1]
    obtain ⟨es2, clock2, hrun2, F2, hput, _, _, hwho⟩ := Maps.fit_store (R' := heldR) K ht hb F (Nat.lt_of_le_of_lt hsz hn) (fun _ _ _ _ hz => hz) hkey (yv := (.held val, [])) (show heldR val = _ from rfl)
    rw [hrun] at hrun2
    have hw : setBlock w m (.map es1 clock) = setBlock w m (.map es2 clock2) := by injection hrun2
    have hbb : some (Obj.map es1 clock) = some (Obj.map es2 clock2) := by
      rw [← heap_setBlock_same hb (.map es1 clock), hw]
      exact heap_setBlock_same hb _
    injection hbb with hbb
    injection hbb with he1 hc1
    subst he1
    subst hc1
    have hstamp : ∀ x ∈ es1.toList, ∃ x0 ∈ es.toList, x0.born = x.born ∧ x0.key = x.key := by
      intro x hx
      rcases hmem x hx with rfl | ⟨hx, _⟩
      · exact ⟨e0, he0m, rfl, h3⟩
      · exact ⟨x, hx, rfl, rfl⟩
    have hkg : ∀ x ∈ es1.toList, ∀ x0 ∈ es.toList, x0.key = x.key → (WideElems.rg P k heldR x).1 = (WideElems.rg P k heldR x0).1 := by
      intro x hx x0 hx0 hk
      obtain ⟨y, hy⟩ := F2.reads x hx
      obtain ⟨y0, hy0⟩ := F.reads x0 hx0
      rw [WideElems.rg_of hy, WideElems.rg_of hy0]
      have q1 := WideElems.rd_key hy
      have q2 := WideElems.rd_key hy0
      rw [hk, q1] at q2
      exact Option.some.inj q2
    refine ⟨_, hrun, ⟨DataW.put (.map ((es.toList.map (WideElems.rg P k heldR)).foldr DataW.insert [])) kl (.held val), ⟨es1, clock, since, seen, c0, heap_setBlock_same hb _, F2, ?_, ?_, ?_, ?_, ?_, ?_, ?_, hsc, hsk⟩, fun x => ?_⟩, ⟨es, clock, es1, clock, hb, rfl⟩⟩
    · have : es1.size = es.size := by simp [es1]
      omega
    · rw [DataW.put_eq, hput]
    · rw [heap_setBlock_other hb _ hne]; exact hr
    · intro x hx
      obtain ⟨x0, hx0, hbn, _⟩ := hstamp x hx
      rw [← hbn]; exact hold x0 hx0
    · have hsz2 : ∀ a : Array MapEntry, (leftOf a seen).size = ((a.toList.map (·.born)).filter fun b => !seen.contains b).length := fun a => by
        unfold leftOf
        rw [← Array.length_toList, Array.toList_filter, List.filter_map, List.length_map]
        rfl
      rw [hsz2, hsz2, hborn]
    · intro x hx
      obtain ⟨x0, hx0, hbn, hk0⟩ := hstamp x hx
      rw [hkg x hx x0 hx0 hk0, hl1 x0 hx0, hbn]
    · intro x0 hx0
      obtain ⟨x, hx, hxe⟩ := hl2 x0 hx0
      have hk0 : x.key ∈ es1.toList.map (·.key) := by rw [hkeys]; exact List.mem_map.2 ⟨x, hx, rfl⟩
      obtain ⟨x1, hx1, hk1⟩ := List.mem_map.1 hk0
      exact ⟨x1, hx1, by rw [hkg x1 hx1 x hx hk1.symm, hxe]⟩
    · unfold upd
      split
      · rename_i hx
        subst hx
        simp [look, Maps.atKey_put_same hlk.isMap (K.key hkey)]
      · rename_i hx
        rw [hM]
        simp [look, Maps.atKey_put_other hx]
end
end Go.Proofs.YtencimfeipglaaaDoor.Mv
