/- The document's let, Version, count. -/
import Derived.Test.YtmhdkjihhdljlaaStTwo
import Derived.Deep.RegionHeld3
import Derived.Laws.Tables
import Derived.IntWalk
import Derived.Deep.RegionLaw
set_option linter.unusedVariables false
set_option linter.unusedSimpArgs false
namespace Go.Proofs.Ytmhdkjihhdljlaa.X
open Go.RowKit Go.Maps Go.ChangeMaps Go.MapKept Go.Proofs.Ytmhdkjihhdljlaa.Mv Go.Proofs.YtmhdkjihhdljlaaW.PrintWords Go.Proofs.YtmhdkjihhdljlaaW.PrintMore
/-- An entry, and where its value's rows lie. -/
structure RX where
  e : Ent
  a2 : Option Addr × Nat × Nat
  a3 : Option Addr × Nat × Nat
  a4 : Option Addr × Nat × Nat
  on : Bool
abbrev sl (x : Option Addr × Nat × Nat) : Value := .slice x.1 x.2.1 x.2.2
abbrev kSl : Kd (Option Addr × Nat × Nat) := Kd.scalar sl (fun _ => rfl)
abbrev kEn : Kd RX := Kd.iso (Kd.pair Kd.string (Kd.pair (Kd.int .u8) (Kd.pair Kd.string (Kd.pair kSl (Kd.pair kSl (Kd.pair kSl (Kd.pair (Kd.int .i64) (Kd.pair Kd.bool Kd.bool)))))))) (fun x => (x.e.key, x.e.v.kind, x.e.v.s, x.a2, x.a3, x.a4, x.e.due, x.on, x.e.past))
abbrev cellsE (x : RX) : List Value := [.string x.e.key, .int .u8 x.e.v.kind, .string x.e.v.s, sl x.a2, sl x.a3, sl x.a4, .int .i64 x.e.due, .bool x.on, .bool x.e.past]
theorem en_K {w : World} {x : RX} {cs : List Value} (h : kEn.K w x cs) : cs = cellsE x := by
  obtain ⟨_, _, rfl, rfl, _, _, rfl, rfl, _, _, rfl, rfl, _, _, rfl, rfl, _, _, rfl, rfl, _, _, rfl, rfl, _, _, rfl, rfl, _, _, rfl, rfl, rfl⟩ := h
  rfl
theorem en_mkM (w : World) (base : Nat) (ok : Nat → Prop) (x : RX) : kEn.M w base ok x (cellsE x) :=
  ⟨[_], _, rfl, rfl, [_], _, rfl, rfl, [_], _, rfl, rfl, [_], _, rfl, rfl, [_], _, rfl, rfl, [_], _, rfl, rfl, [_], _, rfl, rfl, [_], [_], rfl, rfl, rfl⟩
abbrev kCn : Kd (ByteArray × Int) := Kd.pair Kd.string (Kd.int .i64)
/-- The document's store at block y, with entries E, counts D. Z: the entries, each with the places of its rows. -/
structure DAt (w : World) (b y : Nat) (E : List Ent) (D : List (ByteArray × Int)) (time : Int) (vL vC : Value) (Z : List RX) : Prop where
  top : w.heap[y]? = some (.cells #[vL, vC, .int .i64 time] 56 (0, 0))
  ents : Kd.R kEn 80 w b (fun _ => True) vL Z
  cnts : Kd.R kCn 82 w b (fun _ => True) vC D
  eq : Z.map (·.e) = E
  rows : ∀ x ∈ Z, RowsAt w b x.e.v (sl x.a2) (sl x.a3) (sl x.a4)
  hb : b ≤ y
  ons : ∀ x ∈ Z, x.on = decide (0 < x.e.due)
/-- What the document's calls may turn: blocks of these types. -/
def DT (b : Nat) (w : World) : Nat → Prop := fun k => b ≤ k ∧ ∃ cs t, w.heap[k]? = some (.cells cs t (0, 0)) ∧ (t = 56 ∨ t = 80 ∨ t = 82)
section
variable {w w1 w2 : World} {b y : Nat} {E : List Ent} {D : List (ByteArray × Int)} {time : Int} {vL vC : Value} {Z : List RX}
theorem dt_trans (h : Kp (DT b w) w w1) (k : Kp (DT b w1) w1 w2) : Kp (DT b w) w w2 := h.trans' k fun i hi => by
  rcases Nat.lt_or_ge i w.heap.size with hlt | hge
  · left
    refine Classical.byContradiction fun hn => hn ?_
    obtain ⟨h0, cs, t, h1, h2⟩ := hi
    rw [h.block i hlt hn] at h1
    exact ⟨h0, cs, t, h1, h2⟩
  · exact .inr hge
theorem dt_below (h : Below w.heap.size w w1) : Kp (DT b w) w w1 := Kp.of_below h
theorem R_typed {α : Type} {d : Kd α} {e : TypeId} {v : Value} {xs : List α} (h : Kd.R d e w b (fun _ => True) v xs) (hm : ∀ (k : Nat) (cs : Array Value) (t : TypeId), w.heap[k]? = some (.cells cs t (0, 0)) → t ∈ e :: d.E → w1.heap[k]? = w.heap[k]?) : Kd.R d e w1 b (fun _ => True) v xs :=
  Kd.R_mono (Kd.R_move (Kd.R_bound h) (fun k hb => by
    obtain ⟨_, _, _, q, hq, cells, hc⟩ := hb
    exact hm k cells q hc hq)) (fun _ _ => trivial)
theorem RowsAt.typed {x : Vl} {v2 v3 v4 : Value} (h : RowsAt w b x v2 v3 v4) (hm : ∀ (k : Nat) (cs : Array Value) (t : TypeId), w.heap[k]? = some (.cells cs t (0, 0)) → t = 9 ∨ t = 66 ∨ t = 69 → w1.heap[k]? = w.heap[k]?) : RowsAt w1 b x v2 v3 v4 :=
  ⟨R_typed h.1 (fun k cs t hk ht => hm k cs t hk (.inl (List.mem_singleton.1 ht))), R_typed h.2.1 (fun k cs t hk ht => hm k cs t hk (.inr (.inl (List.mem_singleton.1 ht)))), R_typed h.2.2 (fun k cs t hk ht => hm k cs t hk (.inr (.inr (List.mem_singleton.1 ht))))⟩
theorem DAt.lt (h : DAt w b y E D time vL vC Z) : y < w.heap.size := pwlt h.top
theorem DAt.below (h : DAt w b y E D time vL vC Z) (hb : Below w.heap.size w w1) : DAt w1 b y E D time vL vC Z :=
  ⟨(hb.block y h.lt).trans h.top, Kd.R_below h.ents hb, Kd.R_below h.cnts hb, h.eq, fun x hx => (h.rows x hx).typed fun k cs t hk _ => hb.block k (pwlt hk), h.hb, h.ons⟩
/-- What turns none of its types leaves it. -/
theorem DAt.kp {S : Nat → Prop} (h : DAt w b y E D time vL vC Z) (hk : Kp S w w1) (hS : ∀ i, S i → ∀ cs t, w.heap[i]? = some (.cells cs t (0, 0)) → t = 74 ∨ t = 62 ∨ t = 26) : DAt w1 b y E D time vL vC Z := by
  have hm : ∀ (k : Nat) (cs : Array Value) (t : TypeId), w.heap[k]? = some (.cells cs t (0, 0)) → t ≠ 74 → t ≠ 62 → t ≠ 26 → w1.heap[k]? = w.heap[k]? := fun k cs t hk1 t1 t2 t3 => hk.block k (pwlt hk1) fun h => (hS k h _ _ hk1).elim t1 fun h => h.elim t2 t3
  refine ⟨(hm y _ _ h.top (by decide) (by decide) (by decide)).trans h.top, R_typed h.ents (fun k cs t hk ht => ?_), R_typed h.cnts (fun k cs t hk ht => ?_), h.eq, fun x hx => (h.rows x hx).move hm, h.hb, h.ons⟩
  · obtain rfl := List.mem_singleton.1 ht
    exact hm k cs _ hk (by decide) (by decide) (by decide)
  · obtain rfl := List.mem_singleton.1 ht
    exact hm k cs _ hk (by decide) (by decide) (by decide)
theorem ptr_add (ad : Addr) (a b : Nat) (hb : b ≠ 0) : ad.add (a + b) = { block := (ad.add a).block, off := (ad.add a).off + b } := add_in ad a b hb
/-- The cells of an entry, where the row is read. -/
theorem en_cells {ad : Addr} (h : kEn.C w (some ad) Z.length Z) {i : Nat} (hi : i < Z.length) :
    w.cell? (ad.add (i * 9)) = some (.string Z[i].e.key) ∧ w.cell? { block := (ad.add (i * 9)).block, off := (ad.add (i * 9)).off + 1 } = some (.int .u8 Z[i].e.v.kind) ∧ w.cell? { block := (ad.add (i * 9)).block, off := (ad.add (i * 9)).off + 2 } = some (.string Z[i].e.v.s) ∧ w.cell? { block := (ad.add (i * 9)).block, off := (ad.add (i * 9)).off + 3 } = some (sl Z[i].a2) ∧ w.cell? { block := (ad.add (i * 9)).block, off := (ad.add (i * 9)).off + 4 } = some (sl Z[i].a3) ∧ w.cell? { block := (ad.add (i * 9)).block, off := (ad.add (i * 9)).off + 5 } = some (sl Z[i].a4) ∧ w.cell? { block := (ad.add (i * 9)).block, off := (ad.add (i * 9)).off + 6 } = some (.int .i64 Z[i].e.due) ∧ w.cell? { block := (ad.add (i * 9)).block, off := (ad.add (i * 9)).off + 7 } = some (.bool Z[i].on) ∧ w.cell? { block := (ad.add (i * 9)).block, off := (ad.add (i * 9)).off + 8 } = some (.bool Z[i].e.past) := by
  obtain ⟨ad', c, e, h1, h2, h3⟩ := Kd.C_get h Z[i] (i : Int) (by omega) (by omega)
  cases e
  rw [Int.toNat_natCast] at h2 h3
  have hg : Z.getD i Z[i] = Z[i] := by rw [List.getD_eq_getElem?_getD, List.getElem?_eq_getElem hi]; rfl
  rw [hg] at h2
  obtain rfl := en_K h2
  have hs : kEn.sz = 9 := rfl
  rw [hs] at h3
  refine ⟨h3 0 _ rfl, ?_, ?_, ?_, ?_, ?_, ?_, ?_, ?_⟩
  · rw [← ptr_add ad (i * 9) 1 (by decide)]; exact h3 1 _ rfl
  · rw [← ptr_add ad (i * 9) 2 (by decide)]; exact h3 2 _ rfl
  · rw [← ptr_add ad (i * 9) 3 (by decide)]; exact h3 3 _ rfl
  · rw [← ptr_add ad (i * 9) 4 (by decide)]; exact h3 4 _ rfl
  · rw [← ptr_add ad (i * 9) 5 (by decide)]; exact h3 5 _ rfl
  · rw [← ptr_add ad (i * 9) 6 (by decide)]; exact h3 6 _ rfl
  · rw [← ptr_add ad (i * 9) 7 (by decide)]; exact h3 7 _ rfl
  · rw [← ptr_add ad (i * 9) 8 (by decide)]; exact h3 8 _ rfl
theorem cn_cells {ad : Addr} (h : kCn.C w (some ad) D.length D) {i : Nat} (hi : i < D.length) :
    w.cell? (ad.add (i * 2)) = some (.string D[i].1) ∧ w.cell? { block := (ad.add (i * 2)).block, off := (ad.add (i * 2)).off + 1 } = some (.int .i64 D[i].2) := by
  obtain ⟨ad', c, e, h1, h2, h3⟩ := Kd.C_get h D[i] (i : Int) (by omega) (by omega)
  cases e
  rw [Int.toNat_natCast] at h2 h3
  have hg : D.getD i D[i] = D[i] := by rw [List.getD_eq_getElem?_getD, List.getElem?_eq_getElem hi]; rfl
  rw [hg] at h2
  obtain ⟨c0, c1, rfl, rfl, rfl⟩ := h2
  refine ⟨h3 0 _ rfl, ?_⟩
  rw [← ptr_add ad (i * 2) 1 (by decide)]; exact h3 1 _ rfl
/-- Where a key stands. -/
def FindR (k : ByteArray) (Z : List RX) (r : Int) : Prop := (r = -1 ∧ ∀ x ∈ Z, x.e.key ≠ k) ∨ ∃ (Z1 : List RX) (x : RX) (Z2 : List RX), Z = Z1 ++ x :: Z2 ∧ r = (Z1.length : Int) ∧ x.e.key = k ∧ ∀ z ∈ Z1, z.e.key ≠ k
set_option maxHeartbeats 1000000 in
set_option maxRecDepth 100000 in
theorem d_find (k : ByteArray) (H : DAt w b y E D time vL vC Z) (hn : Z.length ≤ 1000) :
    Calls Try.prog 46 #[.pointer (some ⟨y, 0, none⟩), .string k] w fun e w' => ∃ r : Int, e = .returned (.int .i64 r) ∧ Aside0 (FindR k Z r) ∧ w' = w := by
  obtain ⟨A1, c1, rfl, hc1, hC⟩ := Kd.R_reads H.ents
  obtain ⟨n, hn1⟩ : ∃ n, Z.length = n := ⟨_, rfl⟩
  have HN := Aside0.mk hn1
  have h1 := H.top
  rw [hn1] at hn hc1 h1
  have HC := Aside0.mk hC
  have c0 : w.cell? ⟨y, 0, none⟩ = some (.slice A1 n c1) := by simp [World.cell?, h1]
  clear h1 hC hn1 H
  go_enter Try.func46, Try.ntmps46
  go_wp2
  go_loopw [5] (fun v5 wr => wr = w ∧ ∃ i : Nat, v5 = .int .i64 i ∧ i ≤ n ∧ Aside0 (∀ x ∈ Z.take i, x.e.key ≠ k)) (fun v5 _ => n - (match v5 with | .int _ i => i.toNat | _ => 0))
  case atStart => exact ⟨rfl, 0, rfl, Nat.zero_le _, ⟨fun x hx => by simp at hx⟩⟩
  case round =>
    obtain ⟨rfl, i, rfl, hi, HNO⟩ := hrel
    by_cases hlt : i < n
    · have hI : (i : Int) < n := by omega
      have hiL : i < Z.length := by rw [HN.out]; exact hlt
      obtain ⟨ad, e0, _⟩ := (HC.out).2.2 (by omega)
      subst e0
      obtain ⟨d0, _⟩ := en_cells HC.out hiL
      obtain ⟨x, hx⟩ : ∃ x, Z[i] = x := ⟨_, rfl⟩
      have HX := Aside0.mk hx
      obtain ⟨p, hp⟩ : ∃ p, ad.add (i * 9) = p := ⟨_, rfl⟩
      rw [hx, hp] at d0
      clear hx
      by_cases hk : x.e.key = k
      · have hbe : (x.e.key.toList == k.toList) = true := by rw [hk]; simp
        have HK := Aside0.mk hk
        clear hk
        go_wp2
        go_ret
        exact ⟨_, rfl, ⟨.inr ⟨Z.take i, x, Z.drop (i + 1), by rw [← HX.out, ← List.drop_eq_getElem_cons hiL, List.take_append_drop], by rw [List.length_take]; congr 1; omega, HK.out, HNO.out⟩⟩, rfl⟩
      · have hbe : (x.e.key.toList == k.toList) = false := by rw [beq_eq_false_iff_ne]; intro e; exact hk ((bytes_inj _ _).1 e)
        have HK := Aside0.mk hk
        clear hk
        go_wp2
        go_roundw
        case rel => exact ⟨trivial, i + 1, by simp, by omega, ⟨fun z hz => by
          rw [List.take_succ_eq_append_getElem hiL, List.mem_append] at hz
          rcases hz with hz | hz
          · exact HNO.out z hz
          · rw [List.mem_singleton.1 hz, HX.out]; exact HK.out⟩⟩
        case measure => simp; omega
    · have hI : ¬ ((i : Int) < n) := by omega
      go_wp2
      go_ret
      exact ⟨_, rfl, ⟨.inl ⟨rfl, fun x hx => HNO.out x (by rw [List.take_of_length_le (by rw [HN.out]; omega)]; exact hx)⟩⟩, rfl⟩
end
end Go.Proofs.Ytmhdkjihhdljlaa.X
namespace Go.Proofs.Ytmhdkjihhdljlaa.X
open Go.RowKit Go.Maps Go.ChangeMaps Go.MapKept Go.Proofs.Ytmhdkjihhdljlaa.Mv Go.Proofs.YtmhdkjihhdljlaaW.PrintWords Go.Proofs.YtmhdkjihhdljlaaW.PrintMore
theorem infoE : (Try.prog.info? 80).map (fun i => (i.zero, i.size, i.bytes)) = some (some (.agg #[.string ⟨#[]⟩, .int .u8 0, .string ⟨#[]⟩, .slice none 0 0, .slice none 0 0, .slice none 0 0, .int .i64 0, .bool false, .bool false]), 9, 128) := by kernel_rfl
theorem en_empty (W : World) : kEn.R 80 (W.alloc (.cells #[] 80)) W.heap.size (fun _ => True) (.slice (some ⟨W.heap.size, 0, none⟩) 0 0) [] :=
  ⟨fun _ _ => trivial, OwnRow.lit W W.heap.size (inner := []) (ps := []) (Reps.none _ _) (Nat.le_refl _) (by simp)⟩
/-- The first so many of a row, and the others. -/
theorem C_pre {α : Type} {d : Kd α} {w : World} {A : Option Addr} {n : Nat} {xs : List α} (h : d.C w A n xs) (i : Nat) (hi : i ≤ n) : d.C w A i (xs.take i) := by
  refine ⟨by rw [List.length_take, h.1]; omega, Nat.le_trans hi h.2.1, fun h0 => ?_⟩
  obtain ⟨ad, e, hh⟩ := h.2.2 (by omega)
  refine ⟨ad, e, fun j p hj => hh j p ?_⟩
  rw [List.getElem?_take] at hj
  split at hj
  · exact hj
  · cases hj
theorem add_add (ad : Addr) (a b : Nat) : (ad.add a).add b = ad.add (a + b) := by
  unfold Addr.add
  by_cases ha : a = 0 <;> by_cases hb : b = 0 <;> simp [ha, hb, Nat.add_assoc]
theorem C_post {α : Type} {d : Kd α} {w : World} {A A' : Option Addr} {n c m : Nat} {xs : List α} (h : d.C w A n xs) (i : Nat) (hi : i ≤ n) (hc : n ≤ c) (hA : (if c = i then A else A.map (·.add (i * d.sz))) = A') (hm : n - i = m) : d.C w A' m (xs.drop i) := by
  subst hm
  refine ⟨by rw [List.length_drop, h.1], by have := h.2.1; omega, fun h0 => ?_⟩
  obtain ⟨ad, e, hh⟩ := h.2.2 (by omega)
  rw [if_neg (by omega), e] at hA
  refine ⟨ad.add (i * d.sz), hA.symm, fun j p hj => ?_⟩
  rw [List.getElem?_drop] at hj
  obtain ⟨cs, h1, h2, h3⟩ := hh (i + j) p hj
  refine ⟨cs, h1, h2, fun q u hq => ?_⟩
  rw [add_add]
  have := h3 q u hq
  rw [show i * d.sz + (j * d.sz + q) = (i + j) * d.sz + q by rw [Nat.add_mul, Nat.add_assoc]]
  exact this
section
variable {w w1 w2 : World} {b y : Nat} {E : List Ent} {D : List (ByteArray × Int)} {time : Int} {vL vC : Value} {Z : List RX}
theorem dt_y (h : DAt w b y E D time vL vC Z) : DT b w y := ⟨h.hb, _, _, h.top, .inl rfl⟩
theorem set_typed (g : Nat) (j : Nat) (u : Value) {cells : Array Value} {tt : TypeId} (hb : w.heap[g]? = some (.cells cells tt (0, 0))) : ∀ (k : Nat) (cs : Array Value) (t : TypeId), w.heap[k]? = some (.cells cs t (0, 0)) → t ≠ tt → (w.setCell ⟨g, j, none⟩ u).heap[k]? = w.heap[k]? := fun k cs t hk ht => Below.heap_setCell _ _ _ _ (fun e => by
  have e : k = g := e
  rw [e, hb] at hk
  injection hk with hk
  injection hk with _ hk _
  exact ht hk.symm)
/-- The row of entries is another one. -/
theorem DAt.setL (H : DAt w b y E D time vL vC Z) {vL' : Value} {Z' : List RX} (hR : Kd.R kEn 80 w b (fun _ => True) vL' Z') (hrows : ∀ x ∈ Z', RowsAt w b x.e.v (sl x.a2) (sl x.a3) (sl x.a4)) (hons : ∀ x ∈ Z', x.on = decide (0 < x.e.due)) : DAt (w.setCell ⟨y, 0, none⟩ vL') b y (Z'.map (·.e)) D time vL' vC Z' ∧ Kp (DT b w) w (w.setCell ⟨y, 0, none⟩ vL') := by
  have hs := set_typed (w := w) y 0 vL' H.top
  refine ⟨⟨blk_put H.top 0 vL' rfl, R_typed hR (fun k cs t hk ht => hs k cs t hk (by rw [List.mem_singleton.1 ht]; decide)), R_typed H.cnts (fun k cs t hk ht => hs k cs t hk (by rw [List.mem_singleton.1 ht]; decide)), rfl, fun x hx => (hrows x hx).typed (fun k cs t hk ht => hs k cs t hk (by rcases ht with rfl | rfl | rfl <;> decide)), H.hb, hons⟩, (Kp.refl _ _).setCell (.inl (dt_y H)) _⟩
/-- The row of counts is another one. -/
theorem DAt.setC (H : DAt w b y E D time vL vC Z) {vC' : Value} {D' : List (ByteArray × Int)} (hR : Kd.R kCn 82 w b (fun _ => True) vC' D') : DAt (w.setCell ⟨y, 1, none⟩ vC') b y E D' time vL vC' Z ∧ Kp (DT b w) w (w.setCell ⟨y, 1, none⟩ vC') := by
  have hs := set_typed (w := w) y 1 vC' H.top
  refine ⟨⟨blk_put H.top 1 vC' rfl, R_typed H.ents (fun k cs t hk ht => hs k cs t hk (by rw [List.mem_singleton.1 ht]; decide)), R_typed hR (fun k cs t hk ht => hs k cs t hk (by rw [List.mem_singleton.1 ht]; decide)), H.eq, fun x hx => (H.rows x hx).typed (fun k cs t hk ht => hs k cs t hk (by rcases ht with rfl | rfl | rfl <;> decide)), H.hb, H.ons⟩, (Kp.refl _ _).setCell (.inl (dt_y H)) _⟩
set_option maxHeartbeats 1000000 in
set_option maxRecDepth 100000 in
theorem d_drop (Z1 : List RX) (x : RX) (Z2 : List RX) (hZ : Z = Z1 ++ x :: Z2) (i : Nat) (hi : Z1.length = i) (H : DAt w b y E D time vL vC Z) (hn : Z.length ≤ 1000) :
    Calls Try.prog 48 #[.pointer (some ⟨y, 0, none⟩), .int .i64 i] w fun e w' => e = .returned (.tuple #[]) ∧ Aside0 (∃ vL', DAt w' b y ((Z1 ++ Z2).map (·.e)) D time vL' vC (Z1 ++ Z2)) ∧ Aside0 (Kp (DT b w) w w') := by
  obtain ⟨A1, c1, rfl, hc1, hC⟩ := Kd.R_reads H.ents
  obtain ⟨n, hn1⟩ : ∃ n, Z.length = n := ⟨_, rfl⟩
  have HN := Aside0.mk hn1
  have h1 := H.top
  rw [hn1] at hn hc1 h1
  have HC := Aside0.mk hC
  have c0 : w.cell? ⟨y, 0, none⟩ = some (.slice A1 n c1) := by simp [World.cell?, h1]
  have hin : i < n := by rw [← hn1, hZ, List.length_append, List.length_cons]; omega
  have HH := Aside0.mk H
  have HZ := Aside0.mk hZ
  have HI := Aside0.mk hi
  have i1 : (0 : Int) ≤ i := by omega
  have i2 : (i : Int) ≤ n := by omega
  have i3 : (i : Int) + 1 ≤ n := by omega
  have i4 : (i : Int) ≤ c1 := by omega
  clear h1 hC hn1 H hZ hi
  obtain ⟨A2, hA2⟩ : ∃ A2, (if c1 = i + 1 then A1 else A1.map (·.add ((i + 1) * kEn.sz))) = A2 := ⟨_, rfl⟩
  obtain ⟨m, hm⟩ : ∃ m, n - (i + 1) = m := ⟨_, rfl⟩
  obtain ⟨c2, hc2⟩ : ∃ c2, c1 - (i + 1) = c2 := ⟨_, rfl⟩
  have hcut : ∀ W : World, (Instr.slice 53 (.slice A1 n c1) (some (.int .i64 ((i : Int) + 1))) none none).run Try.prog W = .ok (.slice A2 m c2) W := by
    intro W
    obtain ⟨inf, hinf, hz⟩ := Option.map_eq_some_iff.1 infoE
    simp only [Prod.mk.injEq] at hz
    have := cut_from 53 80 .i64 Try.underlying53 hinf 9 hz.2.1 A1 n c1 ((i : Int) + 1) (by omega) (by omega) W
    rw [this]
    have e1 : ((i : Int) + 1).toNat = i + 1 := by omega
    rw [e1, hm, hc2]
    have : (if c1 = i + 1 then A1 else A1.map (·.add ((i + 1) * 9))) = A2 := hA2
    rw [this]
  have HC1 := Aside0.mk (C_pre (HN.out ▸ HC.out) i (by omega))
  have HC2 := Aside0.mk (C_post (HN.out ▸ HC.out) (i + 1) (by omega) hc1 hA2 hm)
  have HT1 := Aside0.mk (show Z.take i = Z1 by rw [HZ.out, ← HI.out, List.take_left])
  have HT2 := Aside0.mk (show Z.drop (i + 1) = Z2 by rw [HZ.out, ← HI.out, show Z1.length + 1 = (Z1 ++ [x]).length by simp, show Z1 ++ x :: Z2 = (Z1 ++ [x]) ++ Z2 by simp, List.drop_left])
  rw [HT1.out] at HC1
  rw [HT2.out] at HC2
  have hZ1l : Z1.length ≤ 1000 := by rw [HI.out]; omega
  have hml : m ≤ 1000 := by omega
  clear hA2 hm hc2
  have HO := Aside0.mk (Kd.R_drew (en_empty w))
  have HW := Aside0.mk (show Below w.heap.size w (w.alloc (.cells #[] 80)).drew from ((Below.refl _ _).alloc (Nat.le_refl _) _).trans ⟨rfl, rfl, rfl, Nat.le_refl _, fun _ _ => rfl⟩)
  have HTOP := Aside0.mk HH.out.top
  have hyl := pwlt HTOP.out
  have ca : ∀ o, (w.alloc o).cell? ⟨y, 0, none⟩ = some (.slice A1 n c1) := fun o => (World.cell?_alloc_lt w o ⟨y, 0, none⟩ hyl).trans c0
  have hwr : IntKind.i64.wrap ((i : Int) + 1) = (i : Int) + 1 := IntWalk.i64_in _ (by omega)
  go_enter Try.func48, Try.ntmps48
  go_wp2
  go_region_law (first
    | (refine Kd.R_append_rows_step kEn (Rr := kEn.K (w.alloc (.cells #[] 80)).drew) (w0 := w) w.heap.size (by rfl) (.tmp 5) (.tmp 11) 53 80 (.agg #[.string ⟨#[]⟩, .int .u8 0, .string ⟨#[]⟩, .slice none 0 0, .slice none 0 0, .slice none 0 0, .int .i64 0, .bool false, .bool false]) 128 (by rfl) Try.underlying53 infoE rfl (by decide) (by decide) _ [] Z1 A1 i c1 (fun _ => True) (fun _ => False) (by rfl) (by rfl) HO.out (Kd.C_drew (Kd.C_below HC1.out ((Below.refl _ _).alloc (Nat.le_refl _) _))) (fun x cs h => by rw [en_K h]; exact en_mkM _ _ _ x) (fun _ h => h.elim) (fun _ _ => trivial) HW.out HW.out.size (by simp; omega) ?_
       intro v2 w2 hown hb2 hg2 hat2
       rw [List.nil_append] at hown
       obtain ⟨A5, c5, rfl⟩ := Kd.R_slice hown
       have HO3 := Aside0.mk hown
       have HB3 := Aside0.mk hb2
       clear hown hb2 hg2 hat2
       have x2 : w2.cell? ⟨y, 0, none⟩ = some (.slice A1 n c1) := (HB3.out.cell (World.block_lt_of_cell? _ _ c0)).trans c0)
    | (refine Kd.R_append_rows_step kEn (Rr := kEn.K w2) (w0 := w) w.heap.size (by rfl) (.tmp 12) (.tmp 19) 53 80 (.agg #[.string ⟨#[]⟩, .int .u8 0, .string ⟨#[]⟩, .slice none 0 0, .slice none 0 0, .slice none 0 0, .int .i64 0, .bool false, .bool false]) 128 (by rfl) Try.underlying53 infoE rfl (by decide) (by decide) _ Z1 Z2 A2 m c2 (fun _ => True) (fun _ => False) (by rfl) (by rfl) HO3.out (Kd.C_below HC2.out HB3.out) (fun x cs h => by rw [en_K h]; exact en_mkM _ _ _ x) (fun _ h => h.elim) (fun _ _ => trivial) HB3.out HB3.out.size (by omega) ?_
       intro v4 w4 hown4 hb4 hg4 hat4
       obtain ⟨A6, c6, rfl⟩ := Kd.R_slice hown4
       have HO4 := Aside0.mk hown4
       have HB4 := Aside0.mk hb4
       clear hown4 hb4 hg4 hat4
       have x4 : w4.cell? ⟨y, 0, none⟩ = some (.slice A1 n c1) := (HB4.out.cell (World.block_lt_of_cell? _ _ c0)).trans c0
       have f4 : w4.frozen? ⟨y, 0, none⟩ = false := by rw [HB4.out.frozen (p := ⟨y, 0, none⟩) (pwlt HTOP.out)]; simp [World.frozen?, HTOP.out]))
  all_goals go_wp2
  all_goals go_end0
  all_goals
    have hD4 := HH.out.below HB4.out
    have hmem : ∀ z ∈ Z1 ++ Z2, z ∈ Z := fun z hz => by
      rw [HZ.out]
      rcases List.mem_append.1 hz with h | h
      · exact List.mem_append_left _ h
      · exact List.mem_append_right _ (List.mem_cons_of_mem _ h)
    have ho4 := HO4.out
    rw [List.length_append] at ho4
    have hfin := hD4.setL (vL' := .slice A6 (Z1.length + Z2.length) c6) (Z' := Z1 ++ Z2) (Kd.R_lower ho4 (Nat.le_trans HH.out.hb (Nat.le_of_lt hyl))) (fun z hz => hD4.rows z (hmem z hz)) (fun z hz => hD4.ons z (hmem z hz))
    exact ⟨rfl, ⟨_, hfin.1⟩, ⟨dt_trans (dt_below HB4.out) hfin.2⟩⟩
end
end Go.Proofs.Ytmhdkjihhdljlaa.X
namespace Go.Proofs.Ytmhdkjihhdljlaa.X
open Go.RowKit Go.Maps Go.ChangeMaps Go.MapKept Go.Proofs.Ytmhdkjihhdljlaa.Mv Go.Proofs.YtmhdkjihhdljlaaW.PrintWords Go.Proofs.YtmhdkjihhdljlaaW.PrintMore
/-- In order of keys. -/
def Srt (E : List Ent) : Prop := E.Pairwise fun p q => p.key.data.toList < q.key.data.toList
theorem StoreSt.srt {w0 w : World} {S : Nat → Prop} {g me mc n nc : Nat} {now : Int} {E : List Ent} {C : ByteArray → Int} (h : StoreSt w0 w S g me mc n nc now E C) : Srt E := by
  obtain ⟨n', nc', A, h1, rfl, _⟩ := h
  exact List.pairwise_map.2 h1.srt
section
variable {E E1 E2 : List Ent} {x : Ent} {k : ByteArray}
theorem srt_split (h : Srt (E1 ++ x :: E2)) (hk : x.key = k) : (∀ e ∈ E1, e.key ≠ k) ∧ ∀ e ∈ E2, e.key ≠ k := by
  obtain ⟨_, h2, h3⟩ := List.pairwise_append.1 h
  obtain ⟨h4, _⟩ := List.pairwise_cons.1 h2
  subst hk
  exact ⟨fun e he hk => by have := h3 e he x List.mem_cons_self; rw [hk] at this; exact List.lt_irrefl _ this, fun e he hk => by have := h4 e he; rw [hk] at this; exact List.lt_irrefl _ this⟩
theorem filter_ne {P : Ent → Bool} {E : List Ent} (h : ∀ e ∈ E, P e = true) : E.filter P = E := List.filter_eq_self.2 h
theorem sp_drop (h : Srt (E1 ++ x :: E2)) (hk : x.key = k) : dropE k (E1 ++ x :: E2) = E1 ++ E2 := by
  obtain ⟨h1, h2⟩ := srt_split h hk
  unfold dropE
  rw [List.filter_append, List.filter_cons, filter_ne (fun e he => by simpa using h1 e he), filter_ne (fun e he => by simpa using h2 e he)]
  simp [hk]
theorem sp_let (h : Srt (E1 ++ x :: E2)) (hk : x.key = k) : letE k (E1 ++ x :: E2) = if x.past = true then E1 ++ E2 else E1 ++ x :: E2 := by
  obtain ⟨h1, h2⟩ := srt_split h hk
  unfold letE
  rw [List.filter_append, List.filter_cons, filter_ne (fun e he => by have := h1 e he; simp [this]), filter_ne (fun e he => by have := h2 e he; simp [this])]
  cases hp : x.past <;> simp [hk, hp]
theorem sp_fnd (h : ∀ e ∈ E1, e.key ≠ k) (hk : x.key = k) : fndE k (E1 ++ x :: E2) = some x := by
  unfold fndE
  rw [List.find?_append, List.find?_eq_none.2 (fun e he => by simpa using h e he), List.find?_cons]
  simp [hk]
theorem no_fnd (h : ∀ e ∈ E, e.key ≠ k) : fndE k E = none := List.find?_eq_none.2 (fun e he => by simpa using h e he)
theorem no_let (h : ∀ e ∈ E, e.key ≠ k) : letE k E = E := List.filter_eq_self.2 (fun e he => by have := h e he; simp [this])
theorem sp_upd (h : Srt (E1 ++ x :: E2)) (hk : x.key = k) (y : Ent) : updE k y (E1 ++ x :: E2) = E1 ++ y :: E2 := by
  obtain ⟨h1, h2⟩ := srt_split h hk
  have hm : ∀ {L : List Ent}, (∀ e ∈ L, e.key ≠ k) → (L.map fun e => if e.key = k then y else e) = L := fun {L} hL => by
    have : (L.map fun e => if e.key = k then y else e) = L.map id := List.map_congr_left fun e he => by rw [if_neg (hL e he)]; rfl
    rw [this, List.map_id]
  unfold updE
  rw [List.map_append, List.map_cons, hm h1, hm h2, if_pos hk]
theorem srt_filter (P : Ent → Bool) (h : Srt E) : Srt (E.filter P) := List.Pairwise.filter _ h
end
/-- The document's store: what it is, in order. -/
structure DS (w : World) (b y : Nat) (E : List Ent) (D : List (ByteArray × Int)) (time : Int) : Prop where
  at_ : ∃ vL vC Z, DAt w b y E D time vL vC Z
  srt : Srt E
  nE : E.length ≤ 900
  nD : D.length ≤ 9000
section
variable {w w1 w2 : World} {b y : Nat} {E : List Ent} {D : List (ByteArray × Int)} {time : Int} {vL vC : Value} {Z : List RX}
theorem DS.below (h : DS w b y E D time) (hb : Below w.heap.size w w1) : DS w1 b y E D time := by
  obtain ⟨⟨vL, vC, Z, h1⟩, h2, h3, h4⟩ := h
  exact ⟨⟨vL, vC, Z, h1.below hb⟩, h2, h3, h4⟩
theorem DAt.len (h : DAt w b y E D time vL vC Z) : Z.length = E.length := by rw [← h.eq, List.length_map]
set_option maxHeartbeats 1000000 in
set_option maxRecDepth 100000 in
theorem d_let (k : ByteArray) (H : DS w b y E D time) :
    Calls Try.prog 45 #[.pointer (some ⟨y, 0, none⟩), .string k] w fun e w' => e = .returned (.tuple #[]) ∧ Aside0 (DS w' b y (letE k E) D time) ∧ Aside0 (Kp (DT b w) w w') := by
  obtain ⟨⟨vL, vC, Z, hat⟩, hsrt, hnE, hnD⟩ := H
  have HA := Aside0.mk hat
  have HS := Aside0.mk hsrt
  have HNE := Aside0.mk (And.intro hnE hnD)
  have hZl := hat.len
  clear hat hsrt hnD
  go_enter Try.func45, Try.ntmps45
  go_wp2_with fail
  refine (d_find k HA.out (by omega)).mono ?_
  rintro e w1 ⟨r, rfl, HF, hw1⟩
  subst hw1
  rcases HF.out with ⟨rfl, hno⟩ | ⟨Z1, x, Z2, hZ, rfl, hk, hno⟩
  · have HNO := Aside0.mk (show ∀ e ∈ E, e.key ≠ k from fun e he => by
      rw [← HA.out.eq] at he
      obtain ⟨z, hz, rfl⟩ := List.mem_map.1 he
      exact hno z hz)
    clear hno HF
    go_wp2
    go_end0
    exact ⟨rfl, ⟨by rw [no_let HNO.out]; exact ⟨⟨_, _, _, HA.out⟩, HS.out, HNE.out.1, HNE.out.2⟩⟩, ⟨Kp.refl _ _⟩⟩
  · have HE := Aside0.mk (show E = Z1.map (·.e) ++ x.e :: Z2.map (·.e) by rw [← HA.out.eq, hZ, List.map_append, List.map_cons])
    have HZ := Aside0.mk hZ
    have HK := Aside0.mk hk
    obtain ⟨A1, c1, e1, hc1, hC⟩ := Kd.R_reads HA.out.ents
    subst e1
    have HC := Aside0.mk hC
    have hn1 : Z1.length < Z.length := by rw [hZ, List.length_append, List.length_cons]; omega
    obtain ⟨ad, e0, _⟩ := (HC.out).2.2 (by omega)
    subst e0
    obtain ⟨d0, d1, d2, d3, d4, d5, d6, d7, d8⟩ := en_cells HC.out hn1
    have hx : Z[Z1.length]'hn1 = x := by simp [hZ]
    rw [hx] at d8
    obtain ⟨i, hi⟩ : ∃ i, Z1.length = i := ⟨_, rfl⟩
    obtain ⟨n, hn⟩ : ∃ n, Z.length = n := ⟨_, rfl⟩
    obtain ⟨p, hp⟩ : ∃ p, ad.add (Z1.length * 9) = p := ⟨_, rfl⟩
    rw [hp] at d8
    rw [hi] at hp hn1 ⊢
    rw [hn] at hn1 hc1 hZl
    have c0 : w1.cell? ⟨y, 0, none⟩ = some (.slice (some ad) n c1) := by have := HA.out.top; rw [hn] at this; simp [World.cell?, this]
    have HI := Aside0.mk hi
    have HN := Aside0.mk hn
    have i1 : (0 : Int) ≤ i := by omega
    have i2 : (i : Int) < n := by omega
    clear hno HF hZ hk hC d0 d1 d2 d3 d4 d5 d6 d7 hx hi hn
    cases hpast : x.e.past with
    | false =>
      rw [hpast] at d8
      have HP := Aside0.mk hpast
      clear hpast
      go_wp2
      go_end0
      exact ⟨rfl, ⟨by rw [HE.out, sp_let (HE.out ▸ HS.out) HK.out, HP.out]; simp only [Bool.false_eq_true, if_false]; rw [← HE.out]; exact ⟨⟨_, _, _, HA.out⟩, HS.out, HNE.out.1, HNE.out.2⟩⟩, ⟨Kp.refl _ _⟩⟩
    | true =>
      rw [hpast] at d8
      have HP := Aside0.mk hpast
      clear hpast
      go_wp2_with fail
      refine (d_drop Z1 x Z2 HZ.out i HI.out HA.out (by rw [HN.out]; omega)).mono ?_
      rintro e w2 ⟨rfl, HD, HKp⟩
      go_wp2
      go_end0
      refine ⟨rfl, ⟨?_⟩, HKp⟩
      obtain ⟨vL', hD⟩ := HD.out
      have hl : letE k E = (Z1 ++ Z2).map (·.e) := by rw [HE.out, sp_let (HE.out ▸ HS.out) HK.out, HP.out, if_pos rfl, List.map_append]
      exact ⟨⟨_, _, _, hl ▸ hD⟩, srt_filter _ HS.out, Nat.le_trans (List.length_filter_le _ _) HNE.out.1, HNE.out.2⟩
end
end Go.Proofs.Ytmhdkjihhdljlaa.X
