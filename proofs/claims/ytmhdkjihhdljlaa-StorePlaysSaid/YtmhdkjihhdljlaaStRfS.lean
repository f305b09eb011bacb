/- The document's SetDue. -/
import Derived.Test.YtmhdkjihhdljlaaStRfL
import Derived.StillTailTactics
set_option linter.unusedVariables false
set_option linter.unusedSimpArgs false
namespace Go.Proofs.Ytmhdkjihhdljlaa.X
open Go.RowKit Go.Maps Go.ChangeMaps Go.MapKept Go.Proofs.Ytmhdkjihhdljlaa.Mv Go.Proofs.YtmhdkjihhdljlaaW.PrintWords Go.Proofs.YtmhdkjihhdljlaaW.PrintMore
/-- How often something became of a key; one more. -/
def lkp (k : ByteArray) : List (ByteArray × Int) → Int
  | [] => 0
  | p :: r => if p.1 = k then p.2 else lkp k r
def cntD (k : ByteArray) : List (ByteArray × Int) → List (ByteArray × Int)
  | [] => [(k, 1)]
  | p :: r => if p.1 = k then (k, wrap64 (p.2 + 1)) :: r else p :: cntD k r
theorem lkp_cnt (j k : ByteArray) : ∀ D, lkp j (cntD k D) = if j = k then wrap64 (lkp k D + 1) else lkp j D
  | [] => by
    by_cases h : j = k
    · subst h; simp [cntD, lkp]; unfold wrap64; decide
    · simp [cntD, lkp, h, Ne.symm h]
  | p :: r => by
    have ih := lkp_cnt j k r
    by_cases hp : p.1 = k
    · by_cases h : j = k
      · subst h; simp [cntD, lkp, hp]
      · have : p.1 ≠ j := fun e => h (by rw [← e, hp])
        simp [cntD, lkp, hp, h, Ne.symm h, this]
    · rw [cntD, if_neg hp, lkp, ih]
      by_cases h : j = k
      · subst h; simp [hp, lkp]
      · simp [h, lkp]
theorem cnt_len (k : ByteArray) : ∀ D : List (ByteArray × Int), (cntD k D).length ≤ D.length + 1
  | [] => by simp [cntD]
  | p :: r => by
    rw [cntD]
    split
    · simp
    · have := cnt_len k r; simp; omega
section
variable {k : ByteArray} {D1 D2 : List (ByteArray × Int)} {p : ByteArray × Int}
theorem lkp_sp (hp : p.1 = k) : ∀ {D1 : List (ByteArray × Int)}, (∀ z ∈ D1, z.1 ≠ k) → lkp k (D1 ++ p :: D2) = p.2 ∧ cntD k (D1 ++ p :: D2) = D1 ++ (k, wrap64 (p.2 + 1)) :: D2
  | [], _ => by simp [lkp, cntD, hp]
  | q :: D1, h => by
    obtain ⟨h1, h2⟩ := lkp_sp hp (D1 := D1) (fun z hz => h z (List.mem_cons_of_mem _ hz))
    have := h q List.mem_cons_self
    simp [lkp, cntD, this, h1, h2]
theorem lkp_no : ∀ {D : List (ByteArray × Int)}, (∀ z ∈ D, z.1 ≠ k) → lkp k D = 0 ∧ cntD k D = D ++ [(k, 1)]
  | [], _ => by simp [lkp, cntD]
  | q :: D, h => by
    obtain ⟨h1, h2⟩ := lkp_no (D := D) (fun z hz => h z (List.mem_cons_of_mem _ hz))
    have := h q List.mem_cons_self
    simp [lkp, cntD, this, h1, h2]
end
theorem infoC : (Try.prog.info? 82).map (fun i => (i.zero, i.size, i.bytes)) = some (some (.agg #[.string ⟨#[]⟩, .int .i64 0]), 2, 24) := by kernel_rfl
section
variable {w w1 w2 : World} {b y : Nat} {E : List Ent} {D : List (ByteArray × Int)} {time : Int} {vL vC : Value} {Z : List RX}
/-- The row of counts has grown, or turned: nothing of another type has. -/
theorem DAt.setC' (H : DAt w b y E D time vL vC Z) (hm : ∀ (k : Nat) (cs : Array Value) (t : TypeId), w.heap[k]? = some (.cells cs t (0, 0)) → t ≠ 82 → w1.heap[k]? = w.heap[k]?) {vC' : Value} {D' : List (ByteArray × Int)} (hR : Kd.R kCn 82 w1 b (fun _ => True) vC' D') : DAt (w1.setCell ⟨y, 1, none⟩ vC') b y E D' time vL vC' Z := by
  have ht := (hm y _ _ H.top (by decide)).trans H.top
  have hs := set_typed (w := w1) y 1 vC' ht
  refine ⟨blk_put ht 1 vC' rfl, R_typed H.ents (fun k cs t hk hq => ?_), R_typed hR (fun k cs t hk hq => hs k cs t hk (by rw [List.mem_singleton.1 hq]; decide)), H.eq, fun x hx => (H.rows x hx).typed (fun k cs t hk hq => ?_), H.hb, H.ons⟩
  · obtain rfl := List.mem_singleton.1 hq
    have h1 := hm k cs _ hk (by decide)
    exact (hs k cs _ (h1.trans hk) (by decide)).trans h1
  · have h1 := hm k cs _ hk (by rcases hq with rfl | rfl | rfl <;> decide)
    exact (hs k cs _ (h1.trans hk) (by rcases hq with rfl | rfl | rfl <;> decide)).trans h1
/-- The row of counts turned where it lies. -/
theorem DAt.inC (H : DAt w b y E D time vL vC Z) (hm : ∀ (k : Nat) (cs : Array Value) (t : TypeId), w.heap[k]? = some (.cells cs t (0, 0)) → t ≠ 82 → w1.heap[k]? = w.heap[k]?) {D' : List (ByteArray × Int)} (hR : Kd.R kCn 82 w1 b (fun _ => True) vC D') : DAt w1 b y E D' time vL vC Z :=
  ⟨(hm y _ _ H.top (by decide)).trans H.top, R_typed H.ents (fun k cs t hk hq => hm k cs t hk (by rw [List.mem_singleton.1 hq]; decide)), hR, H.eq, fun x hx => (H.rows x hx).typed (fun k cs t hk hq => hm k cs t hk (by rcases hq with rfl | rfl | rfl <;> decide)), H.hb, H.ons⟩
theorem grown_m {α : Type} {d : Kd α} {e : TypeId} {v : Value} {xs : List α} (h : Kd.R d e w b (fun _ => True) v xs) (hg : w.grownBy w1 v.ownBlock) : ∀ (k : Nat) (cs : Array Value) (t : TypeId), w.heap[k]? = some (.cells cs t (0, 0)) → t ≠ e → w1.heap[k]? = w.heap[k]? :=
  fun k cs t hk ht => hg.block k (pwlt hk) (Kd.R_ne h hk (fun e => ht e.symm))
theorem grown_kp {α : Type} {d : Kd α} {e : TypeId} {v : Value} {xs : List α} (h : Kd.R d e w b (fun _ => True) v xs) (hE : d.E = []) (hg : w.grownBy w1 v.ownBlock) (he : e = 80 ∨ e = 82) : Kp (DT b w) w w1 :=
  Kp.of_grown hg fun k hk => by
    obtain ⟨_, hbk, _, q, hq, cells, hc⟩ := (Kd.R_bound h).1 k hk
    rw [hE] at hq
    obtain rfl := List.mem_singleton.1 hq
    exact .inl ⟨hbk, cells, _, hc, .inr he⟩
/-- One more, in its row. -/
theorem cn_put {g n c : Nat} (h : Kd.R kCn 82 w b (fun _ => True) (.slice (some ⟨g, 0, none⟩) n c) D) (i : Nat) (hi : i < D.length) (v : Int) :
    Kd.R kCn 82 (w.setCell ⟨g, i * 2 + 1, none⟩ (.int .i64 v)) b (fun _ => True) (.slice (some ⟨g, 0, none⟩) n c) (D.set i (D[i].1, v)) ∧ w.heap[g]? ≠ none ∧ ∃ cells, w.heap[g]? = some (.cells cells 82 (0, 0)) := by
  obtain ⟨hn, _, hC⟩ := Kd.R_reads' h
  obtain ⟨c0, c1⟩ := cn_cells hC hi
  have ha : (⟨g, 0, none⟩ : Addr).add (i * 2) = ⟨g, i * 2, none⟩ := by unfold Addr.add; split <;> simp_all
  rw [ha] at c0 c1
  have hs := (Kd.R_seg h (i : Int) (by omega) (by omega) (c := [.string D[i].1, .int .i64 D[i].2]) (seg := [.int .i64 v]) (j := 1) rfl (fun j u hj => by
    rcases j with _ | _ | j
    · cases hj; exact c0
    · cases hj; exact c1
    · simp at hj) (by show 1 + 1 ≤ 2; decide) (x' := (D[i].1, v)) (okp := fun _ => False) ⟨[.string D[i].1], [.int .i64 v], rfl, rfl, rfl⟩ (fun _ h => h.elim)).1
  obtain ⟨g', cap, hv, _, _, cells, hcells⟩ := Kd.R_form h (by omega)
  injection hv with e1
  injection e1 with e1
  injection e1 with e1
  subst e1
  exact ⟨hs, by rw [hcells]; simp, cells, hcells⟩
set_option maxHeartbeats 1000000 in
set_option maxRecDepth 100000 in
theorem d_version (k : ByteArray) (H : DS w b y E D time) :
    Calls Try.prog 34 #[.pointer (some ⟨y, 0, none⟩), .string k] w fun e w' => e = .returned (.int .i64 (lkp k D)) ∧ w' = w := by
  obtain ⟨⟨vL, vC, Z, hat⟩, hsrt, hnE, hnD⟩ := H
  obtain ⟨A1, c1, rfl, hc1, hC⟩ := Kd.R_reads hat.cnts
  obtain ⟨n, hn1⟩ : ∃ n, D.length = n := ⟨_, rfl⟩
  have HN := Aside0.mk hn1
  have h1 := hat.top
  rw [hn1] at hnD hc1 h1
  have HC := Aside0.mk hC
  have c0 : w.cell? ⟨y, 1, none⟩ = some (.slice A1 n c1) := by simp [World.cell?, h1]
  clear h1 hC hn1 hat hsrt hnE
  go_enter Try.func34, Try.ntmps34
  go_wp2
  go_loopw [5] (fun v5 wr => wr = w ∧ ∃ i : Nat, v5 = .int .i64 i ∧ i ≤ n ∧ Aside0 (∀ x ∈ D.take i, x.1 ≠ k)) (fun v5 _ => n - (match v5 with | .int _ i => i.toNat | _ => 0))
  case atStart => exact ⟨rfl, 0, rfl, Nat.zero_le _, ⟨fun x hx => by simp at hx⟩⟩
  case round =>
    obtain ⟨rfl, i, rfl, hi, HNO⟩ := hrel
    by_cases hlt : i < n
    · have hI : (i : Int) < n := by omega
      have hiL : i < D.length := by rw [HN.out]; exact hlt
      obtain ⟨ad, e0, _⟩ := (HC.out).2.2 (by omega)
      subst e0
      obtain ⟨d0, d1⟩ := cn_cells HC.out hiL
      obtain ⟨x, hx⟩ : ∃ x, D[i] = x := ⟨_, rfl⟩
      have HX := Aside0.mk hx
      obtain ⟨p, hp⟩ : ∃ p, ad.add (i * 2) = p := ⟨_, rfl⟩
      rw [hx, hp] at d0 d1
      clear hx
      by_cases hk : x.1 = k
      · have hbe : (x.1.toList == k.toList) = true := by rw [hk]; simp
        have HK := Aside0.mk hk
        clear hk
        go_wp2
        go_ret
        refine ⟨?_, rfl⟩
        have : D = D.take i ++ x :: D.drop (i + 1) := by rw [← HX.out, ← List.drop_eq_getElem_cons hiL, List.take_append_drop]
        rw [this, (lkp_sp HK.out HNO.out).1]
        rfl
      · have hbe : (x.1.toList == k.toList) = false := by rw [beq_eq_false_iff_ne]; intro e; exact hk ((bytes_inj _ _).1 e)
        have HK := Aside0.mk hk
        clear hk
        go_wp2
        go_roundw
        case rel => exact ⟨trivial, i + 1, by simp, by omega, ⟨fun z hz => by
          rw [List.take_succ_eq_append_getElem hiL, List.mem_append] at hz
          rcases hz with hz | hz
          · exact HNO.out z hz
          · rw [List.mem_singleton.1 hz, HX.out]; exact HK.out⟩⟩
        case measure => simp; omega
    · have hI : ¬ ((i : Int) < n) := by omega
      go_wp2
      go_ret
      exact ⟨by rw [(lkp_no (fun x hx => HNO.out x (by rw [List.take_of_length_le (by rw [HN.out]; omega)]; exact hx))).1]; rfl, rfl⟩
set_option maxHeartbeats 1000000 in
set_option maxRecDepth 100000 in
theorem d_count (k : ByteArray) (hat : DAt w b y E D time vL vC Z) (hD : D.length ≤ 8999) :
    Calls Try.prog 47 #[.pointer (some ⟨y, 0, none⟩), .string k] w fun e w' => e = .returned (.tuple #[]) ∧ Aside0 (∃ vC', DAt w' b y E (cntD k D) time vL vC' Z) ∧ Aside0 (Kp (DT b w) w w') := by
  obtain ⟨A1, c1, rfl, hc1, hC⟩ := Kd.R_reads hat.cnts
  obtain ⟨n, hn1⟩ : ∃ n, D.length = n := ⟨_, rfl⟩
  have HN := Aside0.mk hn1
  have HA := Aside0.mk hat
  have h1 := hat.top
  rw [hn1] at hD hc1 h1
  have HT := Aside0.mk h1
  have HC := Aside0.mk hC
  have c0 : w.cell? ⟨y, 1, none⟩ = some (.slice A1 n c1) := by simp [World.cell?, h1]
  have f0 : w.frozen? ⟨y, 1, none⟩ = false := by simp [World.frozen?, h1]
  clear h1 hC hn1 hat
  go_enter Try.func47, Try.ntmps47
  go_wp2
  go_loopw [4] (fun v4 wr => wr = w ∧ ∃ i : Nat, v4 = .int .i64 i ∧ i ≤ n ∧ Aside0 (∀ x ∈ D.take i, x.1 ≠ k)) (fun v4 _ => n - (match v4 with | .int _ i => i.toNat | _ => 0))
  case atStart => exact ⟨rfl, 0, rfl, Nat.zero_le _, ⟨fun x hx => by simp at hx⟩⟩
  case round =>
    obtain ⟨rfl, i, rfl, hi, HNO⟩ := hrel
    by_cases hlt : i < n
    · have hI : (i : Int) < n := by omega
      have hiL : i < D.length := by rw [HN.out]; exact hlt
      obtain ⟨ad, e0, _⟩ := (HC.out).2.2 (by omega)
      subst e0
      obtain ⟨d0, d1⟩ := cn_cells HC.out hiL
      obtain ⟨x, hx⟩ : ∃ x, D[i] = x := ⟨_, rfl⟩
      have HX := Aside0.mk hx
      obtain ⟨p, hp⟩ : ∃ p, ad.add (i * 2) = p := ⟨_, rfl⟩
      have HP := Aside0.mk hp
      rw [hx, hp] at d0 d1
      clear hx
      by_cases hk : x.1 = k
      · have hbe : (x.1.toList == k.toList) = true := by rw [hk]; simp
        have HK := Aside0.mk hk
        clear hk
        obtain ⟨g, hg⟩ := Kd.R_head HA.out.cnts
        have hpg : p = ⟨g, i * 2, none⟩ := by rw [← hp, hg]; unfold Addr.add; split <;> simp_all
        have hput := cn_put (hg ▸ HA.out.cnts) i hiL (wrap64 (x.2 + 1))
        have HPUT := Aside0.mk hput
        have HPG := Aside0.mk hpg
        have HGG := Aside0.mk hg
        have d1' : wr.drew.cell? { block := p.block, off := p.off + 1 } = some (.int .i64 x.2) := d1
        have fp : wr.drew.frozen? { block := p.block, off := p.off + 1 } = false := by
          obtain ⟨_, _, cells, hcells⟩ := hput
          show wr.frozen? { block := p.block, off := p.off + 1 } = false
          rw [hpg]
          simp [World.frozen?, hcells]
        clear hpg hput hg
        go_wp2
        go_still_tail 16, (by kernel_rfl)
        go_wp2
        (try simp only [Exit.inBlock, Exit.then]); refine bodyPost_ret (results_none rfl _ _ _) rfl ?_
        obtain ⟨hR, _, cells, hcells⟩ := HPUT.out
        have hbg : b ≤ g := Kd.R_base hR g rfl
        rw [← HGG.out] at hR
        have hm : ∀ (k : Nat) (cs : Array Value) (t : TypeId), wr.heap[k]? = some (.cells cs t (0, 0)) → t ≠ 82 → ((wr.setCell ⟨g, i * 2 + 1, none⟩ (.int .i64 (wrap64 (x.2 + 1)))).drew).heap[k]? = wr.heap[k]? := set_typed g (i * 2 + 1) _ hcells
        have hfin := HA.out.inC hm (Kd.R_drew hR)
        have hset : D.set i (D[i].1, wrap64 (x.2 + 1)) = cntD k D := by
          have e : D = D.take i ++ x :: D.drop (i + 1) := by rw [← HX.out, ← List.drop_eq_getElem_cons hiL, List.take_append_drop]
          rw [List.set_eq_take_append_cons_drop, if_pos hiL, HX.out, HK.out]
          conv => rhs; rw [e, (lkp_sp HK.out HNO.out).2]
        have hfin2 : DAt ((wr.setCell ⟨g, i * 2 + 1, none⟩ (.int .i64 (wrap64 (x.2 + 1)))).drew) b y E (cntD k D) time vL (.slice (some ad) D.length c1) Z := hset ▸ hfin
        have hkp : Kp (DT b wr) wr ((wr.setCell ⟨g, i * 2 + 1, none⟩ (.int .i64 (wrap64 (x.2 + 1)))).drew) := ((Kp.refl (DT b wr) wr).setCell (a := ⟨g, i * 2 + 1, none⟩) (.inl ⟨hbg, cells, _, hcells, .inr (.inr rfl)⟩) _).drew
        rw [HPG.out]
        exact ⟨rfl, ⟨_, hfin2⟩, ⟨hkp⟩⟩
      · have hbe : (x.1.toList == k.toList) = false := by rw [beq_eq_false_iff_ne]; intro e; exact hk ((bytes_inj _ _).1 e)
        have HK := Aside0.mk hk
        clear hk
        go_wp2
        go_roundw
        case rel => exact ⟨trivial, i + 1, by simp, by omega, ⟨fun z hz => by
          rw [List.take_succ_eq_append_getElem hiL, List.mem_append] at hz
          rcases hz with hz | hz
          · exact HNO.out z hz
          · rw [List.mem_singleton.1 hz, HX.out]; exact HK.out⟩⟩
        case measure => simp; omega
    · have hI : ¬ ((i : Int) < n) := by omega
      have hop : Kd.R kCn 82 wr b (fun _ => True) (.slice A1 n c1) D := by have := HA.out.cnts; rw [HN.out] at this; exact this
      have HOP := Aside0.mk hop
      clear hop
      go_wp2_with (at_builtin; go_loud (refine Kd.R_append kCn (w0 := wr) b rfl (.tmp 44) (.tmp 47) 54 82 (.agg #[.string ⟨#[]⟩, .int .i64 0]) 24 rfl Try.underlying54 infoC rfl (by decide) (by decide) (.slice A1 n c1) D (k, 1) [.string k, .int .i64 1] (fun _ => True) (fun _ => False) rfl rfl ⟨[.string k], [.int .i64 1], rfl, rfl, rfl⟩ (fun _ h => h.elim) (fun _ _ => trivial) HOP.out (Below.refl _ _) (Nat.le_trans HA.out.hb (Nat.le_of_lt HA.out.lt)) (by rw [HN.out]; omega) ?_; intro v4 w4 ho hb4 hg4 hat; obtain ⟨A7, c7, e7⟩ := Kd.R_slice ho; subst e7; have HO4 := Aside0.mk ho; have HG4 := Aside0.mk hg4; have ht4 := (grown_m HOP.out hg4 y _ _ HT.out (by decide)).trans HT.out; have x1 : w4.cell? ⟨y, 1, none⟩ = some (.slice A1 n c1) := (by simp [World.cell?, ht4]); have x2 : w4.frozen? ⟨y, 1, none⟩ = false := (by simp [World.frozen?, ht4]); clear ho hb4 hg4 hat ht4))
      go_end0
      have ho4 := HO4.out
      rw [List.length_append] at ho4
      have hfin := HA.out.setC' (grown_m HOP.out HG4.out) ho4
      have hno := lkp_no (fun x hx => HNO.out x (by rw [List.take_of_length_le (by rw [HN.out]; omega)]; exact hx)) (k := k) (D := D)
      rw [← hno.2] at hfin
      have hk4 : Kp (DT b wr) wr w4 := grown_kp HOP.out rfl HG4.out (.inr rfl)
      have hy4 : DT b wr y := dt_y HA.out
      exact ⟨rfl, ⟨_, hfin⟩, ⟨hk4.setCell (a := ⟨y, 1, none⟩) (.inl hy4) _⟩⟩
end
end Go.Proofs.Ytmhdkjihhdljlaa.X
namespace Go.Proofs.Ytmhdkjihhdljlaa.X
open Go.RowKit Go.Maps Go.ChangeMaps Go.MapKept Go.Proofs.Ytmhdkjihhdljlaa.Mv Go.Proofs.YtmhdkjihhdljlaaW.PrintWords Go.Proofs.YtmhdkjihhdljlaaW.PrintMore
section
variable {w w1 w2 : World} {b y : Nat} {E : List Ent} {D : List (ByteArray × Int)} {time : Int} {vL vC : Value} {Z Z1 Z2 : List RX} {x : RX}
/-- What turns values' own blocks alone leaves it. -/
theorem DAt.typed (h : DAt w b y E D time vL vC Z) (hm : ∀ (k : Nat) (cs : Array Value) (t : TypeId), w.heap[k]? = some (.cells cs t (0, 0)) → t ≠ 26 → w1.heap[k]? = w.heap[k]?) : DAt w1 b y E D time vL vC Z :=
  ⟨(hm y _ _ h.top (by decide)).trans h.top, R_typed h.ents (fun k cs t hk ht => hm k cs t hk (by rw [List.mem_singleton.1 ht]; decide)), R_typed h.cnts (fun k cs t hk ht => hm k cs t hk (by rw [List.mem_singleton.1 ht]; decide)), h.eq, fun x hx => (h.rows x hx).typed fun k cs t hk ht => hm k cs t hk (by rcases ht with rfl | rfl | rfl <;> decide), h.hb, h.ons⟩
/-- An entry that is found, as the walk reads it. -/
structure Found (w : World) (y i n c g : Nat) (x : RX) : Prop where
  c0 : w.cell? ⟨y, 0, none⟩ = some (.slice (some ⟨g, 0, none⟩) n c)
  i1 : (0 : Int) ≤ i
  i2 : (i : Int) < n
  ng : decide ((i : Int) < 0) = false
  nc : n ≤ c
  d0 : w.cell? ⟨g, i * 9, none⟩ = some (.string x.e.key)
  d1 : w.cell? ⟨g, i * 9 + 1, none⟩ = some (.int .u8 x.e.v.kind)
  d2 : w.cell? ⟨g, i * 9 + 2, none⟩ = some (.string x.e.v.s)
  d3 : w.cell? ⟨g, i * 9 + 3, none⟩ = some (sl x.a2)
  d4 : w.cell? ⟨g, i * 9 + 4, none⟩ = some (sl x.a3)
  d5 : w.cell? ⟨g, i * 9 + 5, none⟩ = some (sl x.a4)
  d6 : w.cell? ⟨g, i * 9 + 6, none⟩ = some (.int .i64 x.e.due)
  d7 : w.cell? ⟨g, i * 9 + 7, none⟩ = some (.bool x.on)
  d8 : w.cell? ⟨g, i * 9 + 8, none⟩ = some (.bool x.e.past)
theorem at_found (H : DAt w b y E D time vL vC Z) (hZ : Z = Z1 ++ x :: Z2) : ∃ n c g, vL = .slice (some ⟨g, 0, none⟩) n c ∧ n = Z.length ∧ Found w y Z1.length n c g x ∧ ∃ cells, w.heap[g]? = some (.cells cells 80 (0, 0)) := by
  have hlt : Z1.length < Z.length := by rw [hZ, List.length_append, List.length_cons]; omega
  obtain ⟨g, c, hv, _, _, cells, hcells⟩ := Kd.R_form H.ents (by omega)
  have hE := H.ents
  rw [hv] at hE
  obtain ⟨_, hc1, hC⟩ := Kd.R_reads' hE
  have hx : Z[Z1.length]'hlt = x := by simp [hZ]
  obtain ⟨d0, d1, d2, d3, d4, d5, d6, d7, d8⟩ := en_cells hC hlt
  have ha : (⟨g, 0, none⟩ : Addr).add (Z1.length * 9) = ⟨g, Z1.length * 9, none⟩ := by unfold Addr.add; split <;> simp_all
  rw [hx, ha] at d0 d1 d2 d3 d4 d5 d6 d7 d8
  have ht := H.top
  rw [hv] at ht
  exact ⟨_, c, g, hv, rfl, ⟨by simp [World.cell?, ht], by omega, by omega, by simp, hc1, d0, d1, d2, d3, d4, d5, d6, d7, d8⟩, cells, hcells⟩
theorem found_E (H : DAt w b y E D time vL vC Z) (hZ : Z = Z1 ++ x :: Z2) : E = Z1.map (·.e) ++ x.e :: Z2.map (·.e) := by rw [← H.eq, hZ, List.map_append, List.map_cons]
theorem none_E {k : ByteArray} (H : DAt w b y E D time vL vC Z) (hno : ∀ z ∈ Z, z.e.key ≠ k) : ∀ e ∈ E, e.key ≠ k := fun e he => by
  rw [← H.eq] at he
  obtain ⟨z, hz, rfl⟩ := List.mem_map.1 he
  exact hno z hz
theorem pre_E {k : ByteArray} (hno : ∀ z ∈ Z1, z.e.key ≠ k) : ∀ e ∈ Z1.map (·.e), e.key ≠ k := fun e he => by
  obtain ⟨z, hz, rfl⟩ := List.mem_map.1 he
  exact hno z hz
set_option maxHeartbeats 1000000 in
set_option maxRecDepth 100000 in
theorem d_due (k : ByteArray) (H : DS w b y E D time) (E1 : List Ent) (hE1 : letE k E = E1) :
    Calls Try.prog 30 #[.pointer (some ⟨y, 0, none⟩), .string k] w fun e w' => e = .returned (.tuple #[.int .i64 (dueE (fndE k E1)), .bool (onE (fndE k E1))]) ∧ Aside0 (DS w' b y E1 D time) ∧ Aside0 (Kp (DT b w) w w') := by
  have HH := Aside0.mk H
  have HE1 := Aside0.mk hE1
  clear H hE1
  go_enter Try.func30, Try.ntmps30
  go_wp2_with fail
  refine (d_let k HH.out).mono ?_
  rintro e w1 ⟨rfl, HD1, HK1⟩
  rw [HE1.out] at HD1
  obtain ⟨⟨vL, vC, Z, hat⟩, hsrt, hnE, hnD⟩ := HD1.out
  have HA := Aside0.mk hat
  have HZL := Aside0.mk (show Z.length ≤ 1000 by rw [hat.len]; omega)
  clear hat hsrt hnE hnD
  go_wp2_with fail
  refine (d_find k HA.out HZL.out).mono ?_
  rintro e w2 ⟨r, rfl, HF, hw2⟩
  subst hw2
  rcases HF.out with ⟨rfl, hno⟩ | ⟨Z1, x, Z2, hZ, rfl, hk, hno⟩
  · have HNO := Aside0.mk (none_E HA.out hno)
    clear hno HF
    go_wp2
    go_ret2
    refine ⟨?_, HD1, HK1⟩
    rw [no_fnd HNO.out]
    rfl
  · obtain ⟨n, c, g, hv, hn, hfo, _⟩ := at_found HA.out hZ
    have HFO := Aside0.mk hfo
    have HX := Aside0.mk (show fndE k E1 = some x.e by rw [found_E HA.out hZ]; exact sp_fnd (pre_E hno) hk)
    have HON := Aside0.mk (HA.out.ons x (by rw [hZ]; exact List.mem_append_right _ List.mem_cons_self))
    obtain ⟨i, hi⟩ : ∃ i, Z1.length = i := ⟨_, rfl⟩
    rw [hi] at HFO ⊢
    clear hi hfo hv hn hno hk hZ HF
    have c0 := HFO.out.c0
    have ng := HFO.out.ng
    have i1 := HFO.out.i1
    have i2 := HFO.out.i2
    have d6 := HFO.out.d6
    have d7 := HFO.out.d7
    by_cases hd : 0 < x.e.due
    · have hon : x.on = true := by rw [HON.out]; simpa using hd
      rw [hon] at d7
      clear hon
      have HDD := Aside0.mk hd
      clear hd
      go_wp2
      go_ret2
      refine ⟨?_, HD1, HK1⟩
      rw [HX.out]
      simp [dueE, onE, HDD.out]
    · have hon : x.on = false := by rw [HON.out]; simpa using hd
      rw [hon] at d7
      clear hon
      have HDD := Aside0.mk hd
      clear hd
      go_wp2
      go_ret2
      refine ⟨?_, HD1, HK1⟩
      rw [HX.out]
      have hd' : ¬ 0 < x.e.due := by have := HDD.out; omega
      rw [show dueE (some x.e) = 0 from if_neg hd', show onE (some x.e) = false from decide_eq_false hd']
      rfl
set_option maxHeartbeats 1000000 in
set_option maxRecDepth 100000 in
theorem d_get (k : ByteArray) (H : DS w b y E D time) (hb : b ≤ w.heap.size) (E1 : List Ent) (hE1 : letE k E = E1) (v : Vl) (hv : valE (fndE k E1) = v) :
    Calls Try.prog 25 #[.pointer (some ⟨y, 0, none⟩), .string k] w fun e w' => ∃ A2 A3 A4 n2 n3 n4 c2 c3 c4, e = .returned (.agg #[.int .u8 v.kind, .string v.s, .slice A2 n2 c2, .slice A3 n3 c3, .slice A4 n4 c4]) ∧ Aside0 (RowsAt w' b v (.slice A2 n2 c2) (.slice A3 n3 c3) (.slice A4 n4 c4)) ∧ Aside0 (DS w' b y E1 D time) ∧ Aside0 (Kp (DT b w) w w') := by
  have HE1 := Aside0.mk hE1
  have HV := Aside0.mk hv
  obtain ⟨w0, hw0, HB0, HC0⟩ := named_alloc w #[.int .u8 0, .string ⟨#[]⟩, .slice none 0 0, .slice none 0 0, .slice none 0 0] 26
  have HH := Aside0.mk (H.below HB0.out)
  have HBW := Aside0.mk hb
  clear H hE1 hv hb
  obtain ⟨q, hq⟩ : ∃ q, w.heap.size = q := ⟨_, rfl⟩
  have HQ := Aside0.mk hq
  rw [hq] at HC0
  go_enter Try.func25, Try.ntmps25
  go_wp2_with fail
  clear hw0 hq
  refine (d_let k HH.out).mono ?_
  rintro e w1 ⟨rfl, HD1, HK1⟩
  rw [HE1.out] at HD1
  have HNQ : ∀ {u : World} {cs : Array Value}, u.heap[q]? = some (.cells cs 26 (0, 0)) → ¬ DT b u q := fun {u cs} hu ⟨_, cs', t, h1, h2⟩ => by
    rw [hu] at h1
    injection h1 with h1
    injection h1 with _ h1 _
    subst h1
    rcases h2 with h | h | h <;> exact absurd h (by decide)
  have HC1 := Aside0.mk ((HK1.out.block q (pwlt HC0.out) (HNQ HC0.out)).trans HC0.out)
  clear HNQ
  obtain ⟨⟨vL, vC, Z, hat⟩, hsrt, hnE, hnD⟩ := HD1.out
  have HA := Aside0.mk hat
  have HZL := Aside0.mk (show Z.length ≤ 1000 by rw [hat.len]; omega)
  clear hat hsrt hnE hnD
  go_wp2_with fail
  refine (d_find k HA.out HZL.out).mono ?_
  rintro e w2 ⟨r, rfl, HF, hw2⟩
  subst hw2
  obtain ⟨z0, z1, z2, z3, z4⟩ := cells5 HC1.out
  have f0 : w2.frozen? ⟨q, 0, none⟩ = false := by simp [World.frozen?, HC1.out]
  have f1 : w2.frozen? ⟨q, 1, none⟩ = false := by simp [World.frozen?, HC1.out]
  have f2 : w2.frozen? ⟨q, 2, none⟩ = false := by simp [World.frozen?, HC1.out]
  have f3 : w2.frozen? ⟨q, 3, none⟩ = false := by simp [World.frozen?, HC1.out]
  have f4 : w2.frozen? ⟨q, 4, none⟩ = false := by simp [World.frozen?, HC1.out]
  have HKK := Aside0.mk (dt_trans (dt_below HB0.out) HK1.out)
  have HTY := Aside0.mk (show ∀ (u0 u1 u2 u3 u4 : Value), (∀ (k : Nat) (cs : Array Value) (t : TypeId), w2.heap[k]? = some (.cells cs t (0, 0)) → t ≠ 26 → (((((w2.setCell ⟨q, 0, none⟩ u0).setCell ⟨q, 1, none⟩ u1).setCell ⟨q, 2, none⟩ u2).setCell ⟨q, 3, none⟩ u3).setCell ⟨q, 4, none⟩ u4).heap[k]? = w2.heap[k]?) ∧ Kp (DT b w) w (((((w2.setCell ⟨q, 0, none⟩ u0).setCell ⟨q, 1, none⟩ u1).setCell ⟨q, 2, none⟩ u2).setCell ⟨q, 3, none⟩ u3).setCell ⟨q, 4, none⟩ u4) from fun u0 u1 u2 u3 u4 => ⟨fun k cs t hk ht => off5 _ _ _ _ _ _ _ k (fun e => by
      subst e
      rw [HC1.out] at hk
      injection hk with hk
      injection hk with _ hk _
      exact ht hk.symm), ((((HKK.out.setCell (.inr (Nat.le_of_eq HQ.out)) _).setCell (.inr (Nat.le_of_eq HQ.out)) _).setCell (.inr (Nat.le_of_eq HQ.out)) _).setCell (.inr (Nat.le_of_eq HQ.out)) _).setCell (.inr (Nat.le_of_eq HQ.out)) _⟩)
  rcases HF.out with ⟨rfl, hno⟩ | ⟨Z1, x, Z2, hZ, rfl, hk, hno⟩
  · have HNO := Aside0.mk (none_E HA.out hno)
    clear hno HF
    go_wp2
    have hvn : v = noneV := by rw [← HV.out, no_fnd HNO.out]; rfl
    subst hvn
    refine bodyPost_ret (results_cell_row rfl _ _ q 26 #[.int .u8 0, .string ⟨#[]⟩, .slice none 0 0, .slice none 0 0, .slice none 0 0] (0, 0) _ rfl (set5 HC1.out _ _ _ _ _) Try.underlying26 rfl (by kernel_rfl)) rfl ?_
    obtain ⟨hm, hkp⟩ := HTY.out (.int .u8 0) (.string ⟨#[]⟩) (.slice none 0 0) (.slice none 0 0) (.slice none 0 0)
    refine ⟨_, _, _, _, _, _, _, _, _, rfl, ⟨Kd.R_nil _ _ _ _ _, Kd.R_nil _ _ _ _ _, Kd.R_nil _ _ _ _ _⟩, ⟨?_⟩, ⟨hkp⟩⟩
    exact ⟨⟨_, _, _, HA.out.typed hm⟩, HD1.out.srt, HD1.out.nE, HD1.out.nD⟩
  · obtain ⟨n, c, g, hvL, hn, hfo, _⟩ := at_found HA.out hZ
    have HFO := Aside0.mk hfo
    have HX := Aside0.mk (show v = x.e.v by rw [← HV.out, found_E HA.out hZ, sp_fnd (pre_E hno) hk]; rfl)
    have HRW := Aside0.mk (HA.out.rows x (by rw [hZ]; exact List.mem_append_right _ List.mem_cons_self))
    obtain ⟨i, hi⟩ : ∃ i, Z1.length = i := ⟨_, rfl⟩
    rw [hi] at HFO ⊢
    clear hi hfo hvL hn hno hk hZ HF
    have c0 := HFO.out.c0
    have ng := HFO.out.ng
    have i1 := HFO.out.i1
    have i2 := HFO.out.i2
    have d1 := HFO.out.d1
    have d2 := HFO.out.d2
    have d3 := HFO.out.d3
    have d4 := HFO.out.d4
    have d5 := HFO.out.d5
    go_wp2
    have hvn := HX.out
    subst hvn
    refine bodyPost_ret (results_cell_row rfl _ _ q 26 #[.int .u8 x.e.v.kind, .string x.e.v.s, sl x.a2, sl x.a3, sl x.a4] (0, 0) _ rfl (set5 HC1.out _ _ _ _ _) Try.underlying26 rfl (by kernel_rfl)) rfl ?_
    obtain ⟨hm, hkp⟩ := HTY.out (.int .u8 x.e.v.kind) (.string x.e.v.s) (sl x.a2) (sl x.a3) (sl x.a4)
    exact ⟨_, _, _, _, _, _, _, _, _, rfl, ⟨HRW.out.typed fun k cs t hk ht => hm k cs t hk (by rcases ht with rfl | rfl | rfl <;> decide)⟩, ⟨⟨_, _, _, HA.out.typed hm⟩, HD1.out.srt, HD1.out.nE, HD1.out.nD⟩, ⟨hkp⟩⟩
end
end Go.Proofs.Ytmhdkjihhdljlaa.X
namespace Go.Proofs.Ytmhdkjihhdljlaa.X
open Go.RowKit Go.Maps Go.ChangeMaps Go.MapKept Go.Proofs.Ytmhdkjihhdljlaa.Mv Go.Proofs.YtmhdkjihhdljlaaW.PrintWords Go.Proofs.YtmhdkjihhdljlaaW.PrintMore
section
variable {w w1 w2 : World} {b y : Nat} {E : List Ent} {D : List (ByteArray × Int)} {time : Int} {vL vC : Value} {Z Z1 Z2 : List RX} {x : RX}
/-- Cells of one element of a row are written. -/
theorem en_put {g n c : Nat} (h : Kd.R kEn 80 w b (fun _ => True) (.slice (some ⟨g, 0, none⟩) n c) Z) (i : Nat) (hi : i < Z.length) (j : Nat) (hj : j < 9) (u : Value) (x' : RX) (hx' : cellsE x' = (cellsE Z[i]).set j u) :
    Kd.R kEn 80 (w.setCell ⟨g, i * 9 + j, none⟩ u) b (fun _ => True) (.slice (some ⟨g, 0, none⟩) n c) (Z.set i x') := by
  obtain ⟨hn, _, hC⟩ := Kd.R_reads' h
  obtain ⟨d0, d1, d2, d3, d4, d5, d6, d7, d8⟩ := en_cells hC hi
  have ha : (⟨g, 0, none⟩ : Addr).add (i * 9) = ⟨g, i * 9, none⟩ := by unfold Addr.add; split <;> simp_all
  rw [ha] at d0 d1 d2 d3 d4 d5 d6 d7 d8
  have hM := en_mkM w b (fun _ => False) x'
  rw [hx'] at hM
  exact (Kd.R_seg h (i : Int) (by omega) (by omega) (c := cellsE Z[i]) (seg := [u]) (j := j) rfl (fun q v hq => by
    rcases q with _ | _ | _ | _ | _ | _ | _ | _ | _ | q
    · cases hq; exact d0
    · cases hq; exact d1
    · cases hq; exact d2
    · cases hq; exact d3
    · cases hq; exact d4
    · cases hq; exact d5
    · cases hq; exact d6
    · cases hq; exact d7
    · cases hq; exact d8
    · simp at hq) (by show j + 1 ≤ 9; omega) (x' := x') (okp := fun _ => False) (by
      rw [List.set_eq_take_append_cons_drop, if_pos (show j < (cellsE Z[i]).length from hj)] at hM
      simpa using hM) (fun _ h => h.elim)).1
theorem en_putS {g n c : Nat} (h : Kd.R kEn 80 w b (fun _ => True) (.slice (some ⟨g, 0, none⟩) n c) (Z1 ++ x :: Z2)) (i : Nat) (hi : Z1.length = i) (j : Nat) (hj : j < 9) (u : Value) (x' : RX) (hx' : cellsE x' = (cellsE x).set j u) :
    Kd.R kEn 80 (w.setCell ⟨g, i * 9 + j, none⟩ u) b (fun _ => True) (.slice (some ⟨g, 0, none⟩) n c) (Z1 ++ x' :: Z2) := by
  have hl : i < (Z1 ++ x :: Z2).length := by rw [List.length_append, List.length_cons]; omega
  have hg : (Z1 ++ x :: Z2)[i]'hl = x := by subst hi; simp
  have := en_put h i hl j hj u x' (by rw [hg]; exact hx')
  rwa [show (Z1 ++ x :: Z2).set i x' = Z1 ++ x' :: Z2 by subst hi; simp] at this
/-- The row of entries turned where it lies. -/
theorem DAt.inE {Z' : List RX} {g : Nat} (H : DAt w b y E D time vL vC Z) (hg : ∃ cells, w.heap[g]? = some (.cells cells 80 (0, 0))) (hoff : ∀ k, k ≠ g → w1.heap[k]? = w.heap[k]?) (hR : Kd.R kEn 80 w1 b (fun _ => True) vL Z') (hrows : ∀ x ∈ Z', RowsAt w b x.e.v (sl x.a2) (sl x.a3) (sl x.a4)) (hons : ∀ x ∈ Z', x.on = decide (0 < x.e.due)) : DAt w1 b y (Z'.map (·.e)) D time vL vC Z' := by
  obtain ⟨cells, hcells⟩ := hg
  have hm : ∀ (k : Nat) (cs : Array Value) (t : TypeId), w.heap[k]? = some (.cells cs t (0, 0)) → t ≠ 80 → w1.heap[k]? = w.heap[k]? := fun k cs t hk ht => hoff k (fun e => by
    subst e
    rw [hcells] at hk
    injection hk with hk
    injection hk with _ hk _
    exact ht hk.symm)
  exact ⟨(hm y _ _ H.top (by decide)).trans H.top, hR, R_typed H.cnts (fun k cs t hk ht => hm k cs t hk (by rw [List.mem_singleton.1 ht]; decide)), rfl, fun x hx => (hrows x hx).typed (fun k cs t hk ht => hm k cs t hk (by rcases ht with rfl | rfl | rfl <;> decide)), H.hb, hons⟩
set_option maxHeartbeats 1000000 in
set_option maxRecDepth 100000 in
theorem d_set (k : ByteArray) (at_ : Int) (on : Bool) (H : DS w b y E D time) (hb : b ≤ w.heap.size) (hD : D.length ≤ 8999) (ht : 0 ≤ time) (r : Bool) (hr : (fndE k (letE k E)).isSome = r) (hsE : Srt (setE k time at_ on E)) (hlE : (setE k time at_ on E).length ≤ 900) :
    Calls Try.prog 26 #[.pointer (some ⟨y, 0, none⟩), .string k, .int .i64 at_, .bool on] w fun e w' => e = .returned (.bool r) ∧ Aside0 (DS w' b y (setE k time at_ on E) (if r = true then cntD k D else D) time) ∧ Aside0 (Kp (DT b w) w w') := by
  have HH := Aside0.mk H
  have HR := Aside0.mk hr
  have HSE := Aside0.mk (And.intro hsE hlE)
  clear H hr hsE hlE
  go_enter Try.func26, Try.ntmps26
  go_wp2_with fail
  refine (d_let k HH.out).mono ?_
  rintro e w1 ⟨rfl, HD1, HK1⟩
  obtain ⟨⟨vL, vC, Z, hat⟩, hsrt, hnE, hnD⟩ := HD1.out
  have HA := Aside0.mk hat
  have HZL := Aside0.mk (show Z.length ≤ 1000 by rw [hat.len]; omega)
  clear hat hsrt hnE hnD
  go_wp2_with fail
  refine (d_find k HA.out HZL.out).mono ?_
  rintro e w2 ⟨q, rfl, HF, hw2⟩
  subst hw2
  rcases HF.out with ⟨rfl, hno⟩ | ⟨Z1, x, Z2, hZ, rfl, hk, hno⟩
  · have HNO := Aside0.mk (none_E HA.out hno)
    clear hno HF
    have hr : r = false := by rw [← HR.out, no_fnd HNO.out]; rfl
    subst hr
    go_wp2
    go_ret
    refine ⟨rfl, ?_, HK1⟩
    have : setE k time at_ on E = letE k E := by unfold setE; rw [no_fnd HNO.out]
    rw [this]
    exact HD1
  · have HX := Aside0.mk (show fndE k (letE k E) = some x.e by rw [found_E HA.out hZ]; exact sp_fnd (pre_E hno) hk)
    have hr : r = true := by rw [← HR.out, HX.out]; rfl
    subst hr
    have HSP := Aside0.mk (And.intro hZ (And.intro hk hno))
    obtain ⟨i, hi⟩ : ∃ i, Z1.length = i := ⟨_, rfl⟩
    have HI := Aside0.mk hi
    have ng : decide ((i : Int) < 0) = false := by simp
    rw [hi]
    clear hi hno hk hZ HF
    go_wp2_with fail
    refine (d_count k HA.out hD).mono ?_
    rintro e w3 ⟨rfl, HD3, HK3⟩
    obtain ⟨vC3, hat3⟩ := HD3.out
    have HA3 := Aside0.mk hat3
    obtain ⟨n, c, g, hvL, hn, hfo, hent⟩ := at_found hat3 HSP.out.1
    rw [HI.out] at hfo
    have HFO := Aside0.mk hfo
    have HENT := Aside0.mk hent
    have HN := Aside0.mk hn
    subst hvL
    have c0 := HFO.out.c0
    have i1 := HFO.out.i1
    have i2 := HFO.out.i2
    have ct : w3.cell? ⟨y, 2, none⟩ = some (.int .i64 time) := by have := hat3.top; simp [World.cell?, this]
    have fr : ∀ j, w3.frozen? ⟨g, j, none⟩ = false := fun j => by obtain ⟨cells, hcells⟩ := hent; simp [World.frozen?, hcells]
    have d6 := HFO.out.d6
    have d7 := HFO.out.d7
    have HDT := Aside0.mk (show DT b w3 g from by obtain ⟨cells, hcells⟩ := hent; exact ⟨Kd.R_base HA3.out.ents g rfl, cells, _, hcells, .inr (.inl rfl)⟩)
    have HKK := Aside0.mk (dt_trans HK1.out HK3.out)
    have HSR := Aside0.mk (show Srt (Z1.map (·.e) ++ x.e :: Z2.map (·.e)) by rw [← found_E HA.out HSP.out.1]; exact HD1.out.srt)
    have HLE := Aside0.mk (found_E HA.out HSP.out.1)
    have HFR := Aside0.mk (show ∀ z ∈ Z1 ++ Z2, RowsAt w3 b z.e.v (sl z.a2) (sl z.a3) (sl z.a4) ∧ z.on = decide (0 < z.e.due) from fun z hz => by
      have hm : z ∈ Z := by
        rw [HSP.out.1]
        rcases List.mem_append.1 hz with h | h
        · exact List.mem_append_left _ h
        · exact List.mem_append_right _ (List.mem_cons_of_mem _ h)
      exact ⟨hat3.rows z hm, hat3.ons z hm⟩)
    have HFX := Aside0.mk (hat3.rows x (by rw [HSP.out.1]; exact List.mem_append_right _ List.mem_cons_self))
    have HEN := Aside0.mk (show Kd.R kEn 80 w3 b (fun _ => True) (.slice (some ⟨g, 0, none⟩) n c) (Z1 ++ x :: Z2) by have := hat3.ents; rw [HSP.out.1] at this; exact this)
    have HLN := Aside0.mk (Nat.le_trans (cnt_len k D) (Nat.succ_le_succ hD))
    have hmem : ∀ (x' : RX) (P : RX → Prop), (∀ z ∈ Z1 ++ Z2, P z) → P x' → ∀ z ∈ Z1 ++ x' :: Z2, P z := fun x' P h1 h2 z hz => by
      rcases List.mem_append.1 hz with h | h
      · exact h1 z (List.mem_append_left _ h)
      · rcases List.mem_cons.1 h with rfl | h
        · exact h2
        · exact h1 z (List.mem_append_right _ h)
    have HMM := Aside0.mk hmem
    clear hat3 hfo hent hn hmem
    cases on with
    | false =>
      go_wp2
      go_ret
      have r1 := en_putS (en_putS HEN.out i HI.out 7 (by decide) (.bool false) { x with on := false } rfl) i HI.out 6 (by decide) (.int .i64 0) ⟨{ x.e with due := 0 }, x.a2, x.a3, x.a4, false⟩ rfl
      have r2 := HA3.out.inE (g := g) HENT.out (fun q hq => by rw [Below.heap_setCell _ _ _ _ hq, Below.heap_setCell _ _ _ _ hq]) r1 (HMM.out _ _ (fun z hz => (HFR.out z hz).1) HFX.out) (HMM.out _ _ (fun z hz => (HFR.out z hz).2) (by simp))
      have hs : setE k time at_ false E = (Z1 ++ (⟨{ x.e with due := 0 }, x.a2, x.a3, x.a4, false⟩ : RX) :: Z2).map (·.e) := by
        unfold setE
        rw [HX.out]
        simp only [Bool.false_eq_true, if_false]
        rw [HLE.out, sp_upd HSR.out HSP.out.2.1, List.map_append, List.map_cons]
      have kp := ((Kp.refl (DT b w3) w3).setCell (a := ⟨g, i * 9 + 7, none⟩) (.inl HDT.out) (.bool false)).setCell (a := ⟨g, i * 9 + 6, none⟩) (.inl HDT.out) (.int .i64 0)
      exact ⟨rfl, ⟨⟨_, _, _, hs ▸ r2⟩, HSE.out.1, HSE.out.2, HLN.out⟩, ⟨dt_trans HKK.out kp⟩⟩
    | true =>
      by_cases hle : at_ ≤ time
      · have hle' : decide (at_ ≤ time) = true := by simpa using hle
        have HLT := Aside0.mk hle
        clear hle
        go_wp2_with fail
        refine (d_drop Z1 x Z2 HSP.out.1 i HI.out HA3.out HZL.out).mono ?_
        rintro e w4 ⟨rfl, HD4, HK4⟩
        go_wp2
        go_ret
        have hs : setE k time at_ true E = (Z1 ++ Z2).map (·.e) := by
          unfold setE
          rw [HX.out]
          simp only [if_true]
          rw [if_pos HLT.out, HLE.out, sp_drop HSR.out HSP.out.2.1, List.map_append]
        obtain ⟨vL', hD'⟩ := HD4.out
        exact ⟨rfl, ⟨⟨_, _, _, hs ▸ hD'⟩, HSE.out.1, HSE.out.2, HLN.out⟩, ⟨dt_trans HKK.out HK4.out⟩⟩
      · have hle' : decide (at_ ≤ time) = false := by simpa using hle
        have HLT := Aside0.mk (show time < at_ by omega)
        clear hle
        go_wp2
        go_ret
        have r1 := en_putS (en_putS (en_putS HEN.out i HI.out 7 (by decide) (.bool true) { x with on := true } rfl) i HI.out 6 (by decide) (.int .i64 0) ⟨{ x.e with due := 0 }, x.a2, x.a3, x.a4, true⟩ rfl) i HI.out 6 (by decide) (.int .i64 at_) ⟨{ x.e with due := at_ }, x.a2, x.a3, x.a4, true⟩ rfl
        have h0 : 0 < at_ := by have := HLT.out; omega
        have r2 := HA3.out.inE (g := g) HENT.out (fun q hq => by rw [Below.heap_setCell _ _ _ _ hq, Below.heap_setCell _ _ _ _ hq, Below.heap_setCell _ _ _ _ hq]) r1 (HMM.out _ _ (fun z hz => (HFR.out z hz).1) HFX.out) (HMM.out _ _ (fun z hz => (HFR.out z hz).2) (by simp [h0]))
        have hs : setE k time at_ true E = (Z1 ++ (⟨{ x.e with due := at_ }, x.a2, x.a3, x.a4, true⟩ : RX) :: Z2).map (·.e) := by
          unfold setE
          rw [HX.out]
          simp only [if_true]
          rw [if_neg (by have := HLT.out; omega), HLE.out, sp_upd HSR.out HSP.out.2.1, List.map_append, List.map_cons]
        have kp := (((Kp.refl (DT b w3) w3).setCell (a := ⟨g, i * 9 + 7, none⟩) (.inl HDT.out) (.bool true)).setCell (a := ⟨g, i * 9 + 6, none⟩) (.inl HDT.out) (.int .i64 0)).setCell (a := ⟨g, i * 9 + 6, none⟩) (.inl HDT.out) (.int .i64 at_)
        exact ⟨rfl, ⟨⟨_, _, _, hs ▸ r2⟩, HSE.out.1, HSE.out.2, HLN.out⟩, ⟨dt_trans HKK.out kp⟩⟩
end
end Go.Proofs.Ytmhdkjihhdljlaa.X
