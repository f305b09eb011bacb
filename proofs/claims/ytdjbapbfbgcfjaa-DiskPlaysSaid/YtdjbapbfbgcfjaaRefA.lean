/- The document's disk, a list of files, as it lies in memory. -/
import Derived.Test.YtdjbapbfbgcfjaaDiskL5
import Derived.Test.YtdjbapbfbgcfjaaWMore
set_option linter.unusedVariables false
set_option linter.unusedSimpArgs false
namespace Go.Proofs.Ytdjbapbfbgcfjaa
open Go.RowKit Go.Maps Go.ChangeMaps Go.MapKept Mv Go.Proofs.YtdjbapbfbgcfjaaW.PrintWords

/-- A file's three cells: its name, its bytes' place, whether it is safe. -/
structure Raw where
  nm : ByteArray
  A : Option Addr
  n : Nat
  c : Nat
  s : Bool
/-- A file: its name, its bytes, whether it is safe. -/
structure Fl where
  nm : ByteArray
  b : List Int
  s : Bool

abbrev kSl : Kd (Option Addr × Nat × Nat) := Kd.scalar (fun x => .slice x.1 x.2.1 x.2.2) (fun _ => rfl)
abbrev kRaw : Kd Raw := Kd.iso (Kd.pair Kd.string (Kd.pair kSl Kd.bool)) (fun x => (x.nm, (x.A, x.n, x.c), x.s))
theorem raw_K {w : World} {x : Raw} {cs : List Value} (h : kRaw.K w x cs) : cs = [.string x.nm, .slice x.A x.n x.c, .bool x.s] := by
  obtain ⟨_, _, rfl, rfl, ⟨_, _, rfl, rfl, rfl⟩⟩ := h
  rfl
theorem raw_M {w : World} {base : Nat} {ok : Nat → Prop} {x : Raw} {cs : List Value} (h : kRaw.M w base ok x cs) : cs = [.string x.nm, .slice x.A x.n x.c, .bool x.s] := by
  obtain ⟨_, _, rfl, rfl, ⟨_, _, rfl, rfl, rfl⟩⟩ := h
  rfl
theorem raw_mkM (w : World) (base : Nat) (ok : Nat → Prop) (x : Raw) : kRaw.M w base ok x [.string x.nm, .slice x.A x.n x.c, .bool x.s] :=
  ⟨[.string x.nm], [.slice x.A x.n x.c, .bool x.s], rfl, rfl, ⟨[.slice x.A x.n x.c], [.bool x.s], rfl, rfl, rfl⟩⟩

/-- The row's cells, where it is the call's own. -/
theorem raw_at {w : World} {e base g n c : Nat} {ok : Nat → Prop} {rs : List Raw} (h : kRaw.R e w base ok (.slice (some ⟨g, 0, none⟩) n c) rs) (k : Nat) (x : Raw) (hx : rs[k]? = some x) :
    w.cell? ⟨g, k * 3, none⟩ = some (.string x.nm) ∧ w.cell? ⟨g, k * 3 + 1, none⟩ = some (.slice x.A x.n x.c) ∧ w.cell? ⟨g, k * 3 + 2, none⟩ = some (.bool x.s) ∧ ∀ j, w.frozen? ⟨g, j, none⟩ = false := by
  obtain ⟨hn, _⟩ := Kd.R_reads' h
  have hk := (List.getElem?_eq_some_iff.1 hx).1
  obtain ⟨cs, _, hM, hc⟩ := Go.Proofs.YtdjbapbfbgcfjaaW.PrintMore.Kd.R_get h x (k : Int) (by omega) (by omega)
  have hd : rs.getD k x = x := by rw [List.getD_eq_getElem?_getD, hx]; rfl
  have hM' := raw_M (show kRaw.M w base _ (rs.getD k x) cs from hM)
  rw [hd] at hM'
  subst hM'
  obtain ⟨g', cap, hv, _, _, cells, hcells⟩ := Kd.R_form h (by omega)
  injection hv with e1 e2 e3
  injection e1 with e1
  injection e1 with e1
  subst e1
  have h0 := hc 0 _ rfl
  have h1 := hc 1 _ rfl
  have h2 := hc 2 _ rfl
  have ha : ∀ j, (⟨g, 0, none⟩ : Addr).add j = ⟨g, 0 + j, none⟩ := fun j => by unfold Addr.add; split <;> simp_all
  have hsz : kRaw.sz = 3 := rfl
  simp only [ha, hsz, Nat.zero_add, Int.toNat_natCast, Nat.add_zero] at h0 h1 h2
  refine ⟨h0, h1, h2, fun j => ?_⟩
  unfold World.frozen?
  rw [hcells]
  simp
/-- A store into one of an element's cells. -/
theorem raw_put {w : World} {e base g n c : Nat} {ok : Nat → Prop} {rs : List Raw} (h : kRaw.R e w base ok (.slice (some ⟨g, 0, none⟩) n c) rs) (k : Nat) (x y : Raw) (hx : rs[k]? = some x) (j : Nat) (u : Value) (hj : j < 3)
    (hy : [Value.string y.nm, .slice y.A y.n y.c, .bool y.s] = [Value.string x.nm, .slice x.A x.n x.c, .bool x.s].set j u) :
    kRaw.R e (w.setCell ⟨g, k * 3 + j, none⟩ u) base ok (.slice (some ⟨g, 0, none⟩) n c) (rs.set k y) := by
  obtain ⟨hn, _⟩ := Kd.R_reads' h
  have hk := (List.getElem?_eq_some_iff.1 hx).1
  have hcell := raw_at h k x hx
  have hs := (Kd.R_seg h (k : Int) (by omega) (by omega) (c := [.string x.nm, .slice x.A x.n x.c, .bool x.s]) (seg := [u]) (j := j) rfl (fun i v hi => by
    rcases i with _ | _ | _ | i
    · cases hi; exact hcell.1
    · cases hi; exact hcell.2.1
    · cases hi; exact hcell.2.2.1
    · simp at hi) (by show j + 1 ≤ 3; omega) (x' := y) (okp := fun _ => False) (by
      have := raw_mkM w base (fun _ => False) y
      rw [hy] at this
      rcases j with _ | _ | _ | j
      · exact this
      · exact this
      · exact this
      · omega) (fun _ h => h.elim)).1
  exact hs

/-- One file: what its cells say, and that its bytes lie in what is the disk's own. -/
def RawOk (w : World) (T : Nat → Prop) (r : Nat) (v : Value) (x : Raw) (f : Fl) : Prop :=
  x.nm = f.nm ∧ x.s = f.s ∧ x.n = f.b.length ∧ x.n ≤ x.c ∧ f.b.length ≤ 65536 ∧ U8.C w x.A x.n f.b ∧ ∀ ad, x.A = some ad → T ad.block ∧ ad.block ≠ r ∧ some ad.block ≠ v.ownBlock ∧ ad.block < w.heap.size

structure RefAt (w : World) (r : Nat) (T : Nat → Prop) (v : Value) (rs : List Raw) (fs : List Fl) : Prop where
  cell : w.heap[r]? = some (.cells #[v] 29 (0, 0))
  tr : T r
  row : kRaw.R 63 w 0 (fun k => some k = v.ownBlock) v rs
  own : ∀ k, v.ownBlock = some k → T k ∧ k ≠ r ∧ k < w.heap.size
  len : rs.length = fs.length
  files : ∀ (i : Nat) x f, rs[i]? = some x → fs[i]? = some f → RawOk w T r v x f

theorem RawOk.step {w w' : World} {T T' : Nat → Prop} {r : Nat} {v : Value} {x : Raw} {f : Fl} (h : RawOk w T r v x f) (hb : ∀ ad, x.A = some ad → w'.heap[ad.block]? = w.heap[ad.block]?) (hs : w.heap.size ≤ w'.heap.size) (hT : ∀ k, T k → T' k) : RawOk w' T' r v x f :=
  ⟨h.1, h.2.1, h.2.2.1, h.2.2.2.1, h.2.2.2.2.1, C_cells h.2.2.2.2.2.1 (fun ad e a v hab hc => cell_block (by rw [hab]; exact hb ad e) hc), fun ad e => by
    have := h.2.2.2.2.2.2 ad e
    exact ⟨hT _ this.1, this.2.1, this.2.2.1, by omega⟩⟩
theorem RefAt.lt {w : World} {r : Nat} {T : Nat → Prop} {v : Value} {rs : List Raw} {fs : List Fl} (h : RefAt w r T v rs fs) : r < w.heap.size := by
  have := h.cell
  exact (Array.getElem?_eq_some_iff.1 this).1
/-- What leaves the disk's blocks leaves it. -/
theorem RefAt.keep {w w' : World} {r : Nat} {T T' : Nat → Prop} {v : Value} {rs : List Raw} {fs : List Fl} (h : RefAt w r T v rs fs) (hb : ∀ k, T k → k < w.heap.size → w'.heap[k]? = w.heap[k]?) (hs : w.heap.size ≤ w'.heap.size) (hT : ∀ k, T k → T' k) : RefAt w' r T' v rs fs where
  cell := (hb r h.tr h.lt).trans h.cell
  tr := hT r h.tr
  row := Kd.R_step h.row fun k ho hlt => by have := h.own k ho.symm; exact hb k this.1 hlt
  own := fun k e => by have := h.own k e; exact ⟨hT k this.1, this.2.1, by omega⟩
  len := h.len
  files := fun i x f hx hf => (h.files i x f hx hf).step (fun ad e => by have := (h.files i x f hx hf).2.2.2.2.2.2 ad e; exact hb _ this.1 this.2.2.2) hs hT
theorem RefAt.kp {w w' : World} {r : Nat} {S T : Nat → Prop} {v : Value} {rs : List Raw} {fs : List Fl} (h : RefAt w r T v rs fs) (hk : Kp S w w') (hd : ∀ k, T k → ¬ S k) : RefAt w' r T v rs fs :=
  h.keep (fun k ht hlt => hk.block k hlt (hd k ht)) hk.size fun _ h => h
theorem RefAt.drewN {w : World} {r : Nat} {T : Nat → Prop} {v : Value} {rs : List Raw} {fs : List Fl} (h : RefAt w r T v rs fs) (n : Nat) : RefAt (w.drewN n) r T v rs fs := h.keep (fun _ _ _ => rfl) (Nat.le_refl _) fun _ h => h
theorem RefAt.cell0 {w : World} {r : Nat} {T : Nat → Prop} {v : Value} {rs : List Raw} {fs : List Fl} (h : RefAt w r T v rs fs) : w.cell? ⟨r, 0, none⟩ = some v ∧ w.frozen? ⟨r, 0, none⟩ = false := by
  unfold World.cell? World.frozen?
  rw [h.cell]
  exact ⟨rfl, by simp⟩
theorem RefAt.form {w : World} {r : Nat} {T : Nat → Prop} {v : Value} {rs : List Raw} {fs : List Fl} (h : RefAt w r T v rs fs) : ∃ A c, v = .slice A rs.length c := by
  obtain ⟨A, c, e, _⟩ := Kd.R_reads h.row
  exact ⟨A, c, e⟩
end Go.Proofs.Ytdjbapbfbgcfjaa
