/- The document's Put. -/
import Derived.Test.YtmhdkjihhdljlaaStRfS
import Derived.Test.YtmhdkjihhdljlaaStrOrd
import Derived.Sort.Walk0
set_option linter.unusedVariables false
set_option linter.unusedSimpArgs false
namespace Go.Proofs.Ytmhdkjihhdljlaa.X
open Go.RowKit Go.Maps Go.ChangeMaps Go.MapKept Go.Proofs.Ytmhdkjihhdljlaa.Mv Go.Proofs.YtmhdkjihhdljlaaW.PrintWords Go.Proofs.YtmhdkjihhdljlaaW.PrintMore
section
variable {w w1 w2 : World} {b y : Nat} {E : List Ent} {D : List (ByteArray × Int)} {time : Int} {vL vC : Value} {Z Z1 Z2 : List RX} {x : RX}
def purgeZ (Z : List RX) : List RX := Z.filter fun x => !x.e.past
theorem purgeZ_E (Z : List RX) : (purgeZ Z).map (·.e) = purgeE (Z.map (·.e)) := by
  unfold purgeZ purgeE
  rw [List.filter_map]
  rfl
theorem purgeZ_take {i : Nat} (hi : i < Z.length) : purgeZ (Z.take (i + 1)) = purgeZ (Z.take i) ++ (if Z[i].e.past = true then [] else [Z[i]]) := by
  unfold purgeZ
  rw [List.take_succ_eq_append_getElem hi, List.filter_append]
  congr 1
  cases h : Z[i].e.past <;> simp [h]
theorem keysZ_take {i : Nat} (hi : i < Z.length) : (purgeZ (Z.take (i + 1))).map (·.e.key) = (purgeZ (Z.take i)).map (·.e.key) ++ (if Z[i].e.past = true then [] else [Z[i].e.key]) := by
  rw [purgeZ_take hi, List.map_append]
  split <;> rfl
set_option maxHeartbeats 1000000 in
set_option maxRecDepth 100000 in
theorem d_purge (H : DS w b y E D time) (r : Int) (hr : (E.length : Int) - ((purgeE E).length : Int) = r) (hb : b ≤ w.heap.size) :
    Calls Try.prog 29 #[.pointer (some ⟨y, 0, none⟩)] w fun e w' => e = .returned (.int .i64 r) ∧ Aside0 (DS w' b y (purgeE E) D time) ∧ Aside0 (Kp (DT b w) w w') := by
  obtain ⟨⟨vL, vC, Z, hat⟩, hsrt, hnE, hnD⟩ := H
  obtain ⟨A1, c1, rfl, hc1, hC⟩ := Kd.R_reads hat.ents
  obtain ⟨n, hn1⟩ : ∃ n, Z.length = n := ⟨_, rfl⟩
  have HN := Aside0.mk hn1
  have HA := Aside0.mk hat
  have HS := Aside0.mk hsrt
  have HNE := Aside0.mk (And.intro hnE hnD)
  have HR := Aside0.mk hr
  have hnl : n ≤ 900 := by rw [← hn1, hat.len]; exact hnE
  have h1 := hat.top
  rw [hn1] at hc1 h1
  have HT := Aside0.mk h1
  have HC := Aside0.mk hC
  have c0 : w.cell? ⟨y, 0, none⟩ = some (.slice A1 n c1) := by simp [World.cell?, h1]
  clear h1 hC hn1 hat hsrt hnE hnD hr
  go_enter Try.func29, Try.ntmps29
  go_wp2
  have HB0 := Aside0.mk (show Below w.heap.size w (w.alloc (.cells #[] 80)) from (Below.refl _ _).alloc (Nat.le_refl _) _)
  have HO0 := Aside0.mk (en_empty w)
  go_loopw [3, 4] (fun v3 v4 wr => ∃ i : Nat, v4 = .int .i64 i ∧ i ≤ n ∧ Aside0 (Kd.R kEn 80 wr w.heap.size (fun _ => True) v3 (purgeZ (Z.take i))) ∧ Aside0 (Below w.heap.size w wr)) (fun _ v4 _ => n - (match v4 with | .int _ i => i.toNat | _ => 0))
  case atStart => exact ⟨0, rfl, Nat.zero_le _, HO0, HB0⟩
  case round =>
    clear HO0 HB0 c0
    obtain ⟨i, rfl, hi, HO, HB⟩ := hrel
    have HTR := Aside0.mk ((HB.out.block y (pwlt HT.out)).trans HT.out)
    have c0 : wr.cell? ⟨y, 0, none⟩ = some (.slice A1 n c1) := by simp [World.cell?, HTR.out]
    have f0 : wr.frozen? ⟨y, 0, none⟩ = false := by simp [World.frozen?, HTR.out]
    obtain ⟨A6, c6, e6⟩ := Kd.R_slice HO.out
    obtain ⟨xs, hxs⟩ : ∃ xs, purgeZ (Z.take i) = xs := ⟨_, rfl⟩
    obtain ⟨q6, hq6⟩ : ∃ q, xs.length = q := ⟨_, rfl⟩
    have hq6l : q6 ≤ 900 := by rw [← hq6, ← hxs]; exact Nat.le_trans (List.length_filter_le _ _) (by rw [List.length_take, HN.out]; omega)
    rw [hxs, hq6] at e6
    subst e6
    have HXS := Aside0.mk hxs
    have HQ6 := Aside0.mk hq6
    rw [hxs] at HO
    clear hxs hq6
    by_cases hlt : i < n
    · have hI : (i : Int) < n := by omega
      obtain ⟨ad, e0, _⟩ := (HC.out).2.2 (by rw [HN.out]; omega)
      subst e0
      have hiL : i < Z.length := by rw [HN.out]; exact hlt
      have HTK := Aside0.mk (purgeZ_take hiL)
      obtain ⟨d0, d1, d2, d3, d4, d5, d6, d7, d8⟩ := en_cells HC.out hiL
      obtain ⟨x, hx⟩ : ∃ x, Z[i] = x := ⟨_, rfl⟩
      obtain ⟨p, hp⟩ : ∃ p, ad.add (i * 9) = p := ⟨_, rfl⟩
      rw [hx, hp] at d0 d1 d2 d3 d4 d5 d6 d7 d8
      rw [hx, HXS.out] at HTK
      have hbc : ∀ (a : Addr) v, w.cell? a = some v → wr.cell? a = some v := fun a v ha => (HB.out.cell (World.block_lt_of_cell? _ _ ha)).trans ha
      replace d0 := hbc _ _ d0
      replace d1 := hbc _ _ d1
      replace d2 := hbc _ _ d2
      replace d3 := hbc _ _ d3
      replace d4 := hbc _ _ d4
      replace d5 := hbc _ _ d5
      replace d6 := hbc _ _ d6
      replace d7 := hbc _ _ d7
      replace d8 := hbc _ _ d8
      clear hx hbc
      cases hpast : x.e.past with
      | true =>
        rw [hpast] at d8
        have HP := Aside0.mk hpast
        clear hpast
        go_wp2
        go_roundw
        case rel => exact ⟨i + 1, by simp, by omega, ⟨by rw [HTK.out, if_pos HP.out, List.append_nil]; exact HO.out⟩, HB⟩
        case measure => simp; omega
      | false =>
        rw [hpast] at d8
        have HP := Aside0.mk hpast
        clear hpast
        have HM := Aside0.mk (show kEn.M wr w.heap.size (fun _ => False) x [.string x.e.key, .int .u8 x.e.v.kind, .string x.e.v.s, sl x.a2, sl x.a3, sl x.a4, .int .i64 x.e.due, .bool x.on, .bool false] by have h := en_mkM wr w.heap.size (fun _ => False) x; simp only [cellsE, HP.out] at h; exact h)
        go_wp2_with (at_builtin; go_loud (refine Kd.R_append kEn (w0 := w) w.heap.size rfl _ _ 53 80 (.agg #[.string ⟨#[]⟩, .int .u8 0, .string ⟨#[]⟩, .slice none 0 0, .slice none 0 0, .slice none 0 0, .int .i64 0, .bool false, .bool false]) 128 rfl Try.underlying53 infoE rfl (by decide) (by decide) (.slice A6 q6 c6) xs x [.string x.e.key, .int .u8 x.e.v.kind, .string x.e.v.s, sl x.a2, sl x.a3, sl x.a4, .int .i64 x.e.due, .bool x.on, .bool false] (fun _ => True) (fun _ => False) rfl rfl HM.out (fun _ h => h.elim) (fun _ _ => trivial) HO.out HB.out HB.out.size (by rw [HQ6.out]; omega) ?_; intro v4 w4 ho hb4 hg4 hat; have HO4 := Aside0.mk ho; have HB4 := Aside0.mk hb4; clear ho hb4 hg4 hat))
        go_roundw
        case rel => exact ⟨i + 1, by simp, by omega, ⟨by rw [HTK.out, if_neg (by rw [HP.out]; simp)]; exact HO4.out⟩, HB4⟩
        case measure => simp; omega
    · obtain rfl : n = i := by omega
      have hI : ¬ ((n : Int) < n) := by omega
      have hxl : xs = purgeZ Z := by rw [← HXS.out, List.take_of_length_le (by rw [HN.out]; exact Nat.le_refl _)]
      have hpe : xs.map (·.e) = purgeE E := by rw [hxl, purgeZ_E, HA.out.eq]
      have hql : (n : Int) - (q6 : Int) = r := by
        rw [← HR.out, ← hpe, List.length_map, HQ6.out, ← HN.out, HA.out.len]
      have HPE := Aside0.mk hpe
      have HXL := Aside0.mk hxl
      have hqn : q6 ≤ n := by rw [← HQ6.out, hxl, ← HN.out]; exact List.length_filter_le _ _
      have hwr : IntKind.i64.wrap ((n : Int) - (q6 : Int)) = (n : Int) - (q6 : Int) := IntWalk.i64_in _ (by omega)
      clear hpe hxl
      go_wp2
      go_ret
      have hDw := HA.out.below HB.out
      have ho := HO.out
      have hfin := hDw.setL (vL' := .slice A6 q6 c6) (Z' := xs) (Kd.R_lower ho hb) (fun z hz => hDw.rows z (by rw [HXL.out] at hz; exact (List.mem_filter.1 hz).1)) (fun z hz => hDw.ons z (by rw [HXL.out] at hz; exact (List.mem_filter.1 hz).1))
      refine ⟨by rw [← hql]; rfl, ⟨⟨_, _, _, HPE.out ▸ hfin.1⟩, srt_filter _ HS.out, Nat.le_trans (List.length_filter_le _ _) HNE.out.1, HNE.out.2⟩, ⟨dt_trans (dt_below HB.out) hfin.2⟩⟩
set_option maxHeartbeats 1000000 in
set_option maxRecDepth 100000 in
theorem d_keys (H : DS w b y E D time) (l : List ByteArray) (hl : keysE E = l) (q : Nat) (hq : l.length = q) :
    Calls Try.prog 32 #[.pointer (some ⟨y, 0, none⟩)] w fun e w' => ∃ B k, e = .returned (.slice B q k) ∧ Aside0 (q ≤ k) ∧ Aside0 (Kd.C Kd.string w' B l.length l) ∧ Aside0 (Below w.heap.size w w') := by
  obtain ⟨⟨vL, vC, Z, hat⟩, hsrt, hnE, hnD⟩ := H
  obtain ⟨A1, c1, rfl, hc1, hC⟩ := Kd.R_reads hat.ents
  obtain ⟨n, hn1⟩ : ∃ n, Z.length = n := ⟨_, rfl⟩
  have HN := Aside0.mk hn1
  have HA := Aside0.mk hat
  have HQ := Aside0.mk (And.intro hl hq)
  have hnl : n ≤ 900 := by rw [← hn1, hat.len]; exact hnE
  have h1 := hat.top
  rw [hn1] at hc1 h1
  have HT := Aside0.mk h1
  have HC := Aside0.mk hC
  have c0 : w.cell? ⟨y, 0, none⟩ = some (.slice A1 n c1) := by simp [World.cell?, h1]
  clear h1 hC hn1 hat hsrt hnE hnD hl hq
  go_enter Try.func32, Try.ntmps32
  go_wp2
  have HB0 := Aside0.mk (show Below w.heap.size w (w.alloc (.cells #[] 9)) from (Below.refl _ _).alloc (Nat.le_refl _) _)
  have HO0 := Aside0.mk (show Kd.R Kd.string 9 (w.alloc (.cells #[] 9)) w.heap.size (fun _ => True) (.slice (some ⟨w.heap.size, 0, none⟩) 0 0) [] from ⟨fun _ _ => trivial, OwnRow.lit w w.heap.size (ps := []) (inner := []) (Reps.none _ _) (Nat.le_refl _) (by simp)⟩)
  go_loopw [3, 4] (fun v3 v4 wr => ∃ i : Nat, v4 = .int .i64 i ∧ i ≤ n ∧ Aside0 (Kd.R Kd.string 9 wr w.heap.size (fun _ => True) v3 ((purgeZ (Z.take i)).map (·.e.key))) ∧ Aside0 (Below w.heap.size w wr)) (fun _ v4 _ => n - (match v4 with | .int _ i => i.toNat | _ => 0))
  case atStart => exact ⟨0, rfl, Nat.zero_le _, HO0, HB0⟩
  case round =>
    clear HO0 HB0 c0
    obtain ⟨i, rfl, hi, HO, HB⟩ := hrel
    have HTR := Aside0.mk ((HB.out.block y (pwlt HT.out)).trans HT.out)
    have c0 : wr.cell? ⟨y, 0, none⟩ = some (.slice A1 n c1) := by simp [World.cell?, HTR.out]
    have f0 : wr.frozen? ⟨y, 0, none⟩ = false := by simp [World.frozen?, HTR.out]
    obtain ⟨A6, c6, e6⟩ := Kd.R_slice HO.out
    obtain ⟨xs, hxs⟩ : ∃ xs, (purgeZ (Z.take i)).map (·.e.key) = xs := ⟨_, rfl⟩
    obtain ⟨q6, hq6⟩ : ∃ q, xs.length = q := ⟨_, rfl⟩
    have hq6l : q6 ≤ 900 := by rw [← hq6, ← hxs]; rw [List.length_map]; exact Nat.le_trans (List.length_filter_le _ _) (by rw [List.length_take, HN.out]; omega)
    rw [hxs, hq6] at e6
    subst e6
    have HXS := Aside0.mk hxs
    have HQ6 := Aside0.mk hq6
    rw [hxs] at HO
    clear hxs hq6
    by_cases hlt : i < n
    · have hI : (i : Int) < n := by omega
      obtain ⟨ad, e0, _⟩ := (HC.out).2.2 (by rw [HN.out]; omega)
      subst e0
      have hiL : i < Z.length := by rw [HN.out]; exact hlt
      have HTK := Aside0.mk (keysZ_take hiL)
      obtain ⟨d0, d1, d2, d3, d4, d5, d6, d7, d8⟩ := en_cells HC.out hiL
      obtain ⟨x, hx⟩ : ∃ x, Z[i] = x := ⟨_, rfl⟩
      obtain ⟨p, hp⟩ : ∃ p, ad.add (i * 9) = p := ⟨_, rfl⟩
      rw [hx, hp] at d0 d1 d2 d3 d4 d5 d6 d7 d8
      rw [hx, HXS.out] at HTK
      have hbc : ∀ (a : Addr) v, w.cell? a = some v → wr.cell? a = some v := fun a v ha => (HB.out.cell (World.block_lt_of_cell? _ _ ha)).trans ha
      replace d0 := hbc _ _ d0
      replace d1 := hbc _ _ d1
      replace d2 := hbc _ _ d2
      replace d3 := hbc _ _ d3
      replace d4 := hbc _ _ d4
      replace d5 := hbc _ _ d5
      replace d6 := hbc _ _ d6
      replace d7 := hbc _ _ d7
      replace d8 := hbc _ _ d8
      clear hx hbc
      cases hpast : x.e.past with
      | true =>
        rw [hpast] at d8
        have HP := Aside0.mk hpast
        clear hpast
        go_wp2
        go_roundw
        case rel => exact ⟨i + 1, by simp, by omega, ⟨by rw [HTK.out, if_pos HP.out, List.append_nil]; exact HO.out⟩, HB⟩
        case measure => simp; omega
      | false =>
        rw [hpast] at d8
        have HP := Aside0.mk hpast
        clear hpast
        go_wp2_with (at_builtin; go_loud (refine Kd.R_append Kd.string (w0 := w) w.heap.size rfl _ _ 22 9 (.string ⟨#[]⟩) 16 rfl Try.underlying22 infoStr rfl (by decide) (by decide) (.slice A6 q6 c6) xs x.e.key [.string x.e.key] (fun _ => True) (fun _ => False) rfl rfl rfl (fun _ h => h.elim) (fun _ _ => trivial) HO.out HB.out HB.out.size (by rw [HQ6.out]; omega) ?_; intro v4 w4 ho hb4 hg4 hat; have HO4 := Aside0.mk ho; have HB4 := Aside0.mk hb4; clear ho hb4 hg4 hat))
        go_roundw
        case rel => exact ⟨i + 1, by simp, by omega, ⟨by rw [HTK.out, if_neg (by rw [HP.out]; simp)]; exact HO4.out⟩, HB4⟩
        case measure => simp; omega
    · obtain rfl : n = i := by omega
      have hI : ¬ ((n : Int) < n) := by omega
      have hxl : xs = l := by
        rw [← HXS.out, List.take_of_length_le (by rw [HN.out]; exact Nat.le_refl _), ← HQ.out.1, keys_purge, ← HA.out.eq, ← purgeZ_E, List.map_map]
        rfl
      have hqq : q6 = q := by rw [← HQ6.out, hxl, HQ.out.2]
      subst hqq hxl
      go_wp2
      go_ret
      obtain ⟨_, h2, h3⟩ := Kd.R_reads' HO.out
      exact ⟨A6, c6, rfl, ⟨h2⟩, ⟨h3⟩, HB⟩
end
end Go.Proofs.Ytmhdkjihhdljlaa.X
namespace Go.Proofs.Ytmhdkjihhdljlaa.X
open Go.RowKit Go.Maps Go.ChangeMaps Go.MapKept Go.Proofs.Ytmhdkjihhdljlaa.Mv Go.Proofs.YtmhdkjihhdljlaaW.PrintWords Go.Proofs.YtmhdkjihhdljlaaW.PrintMore
/-- How often something became of the keys, behind a tick. -/
def tickD (t : Int) (E : List Ent) (D : List (ByteArray × Int)) : List (ByteArray × Int) := E.foldl (fun D e => if dueNow t e then cntD e.key D else D) D
def tickZ1 (t : Int) (x : RX) : RX := { x with e := tick1 t x.e }
theorem tickD_snoc (t : Int) (E : List Ent) (e : Ent) (D : List (ByteArray × Int)) : tickD t (E ++ [e]) D = if dueNow t e then cntD e.key (tickD t E D) else tickD t E D := by
  unfold tickD
  rw [List.foldl_append]
  rfl
theorem tickD_len (t : Int) : ∀ (E : List Ent) (D : List (ByteArray × Int)), (tickD t E D).length ≤ D.length + E.length
  | [], D => Nat.le_refl _
  | e :: E, D => by
    have h := tickD_len t E (if dueNow t e then cntD e.key D else D)
    have h2 := cnt_len e.key D
    have h3 : (if dueNow t e then cntD e.key D else D).length ≤ D.length + 1 := by split <;> omega
    show (tickD t E (if dueNow t e then cntD e.key D else D)).length ≤ _
    rw [List.length_cons]
    omega
theorem lkp_tick (t : Int) (j : ByteArray) : ∀ (E : List Ent) (D : List (ByteArray × Int)), Srt E → lkp j (tickD t E D) = (match fndE j E with | none => lkp j D | some p => if dueNow t p then wrap64 (lkp j D + 1) else lkp j D)
  | [], D, _ => rfl
  | e :: E, D, hs => by
    obtain ⟨h1, h2⟩ := List.pairwise_cons.1 hs
    have ih := lkp_tick t j E (if dueNow t e then cntD e.key D else D) h2
    show lkp j (tickD t E (if dueNow t e then cntD e.key D else D)) = _
    rw [ih]
    by_cases hk : e.key = j
    · have hn : fndE j E = none := no_fnd (fun a ha hk2 => by have := h1 a ha; rw [hk2, hk] at this; exact List.lt_irrefl _ this)
      have hf : fndE j (e :: E) = some e := sp_fnd (E1 := []) (fun _ h => by cases h) hk
      rw [hn, hf]
      simp only
      split
      · rw [lkp_cnt, if_pos hk.symm, hk]
      · rfl
    · have hf : fndE j (e :: E) = fndE j E := by
        unfold fndE
        rw [List.find?_cons]
        simp [hk]
      have hl : lkp j (if dueNow t e then cntD e.key D else D) = lkp j D := by
        split
        · rw [lkp_cnt, if_neg (Ne.symm hk)]
        · rfl
      rw [hf, hl]
section
variable {w w1 w2 : World} {b y : Nat} {E : List Ent} {D : List (ByteArray × Int)} {time : Int} {vL vC : Value} {Z Z1 Z2 : List RX} {x : RX}
attribute [local go_sem] max_two min_two max2_mx min2_mn
/-- The time is another one. -/
theorem DAt.setT (H : DAt w b y E D time vL vC Z) (t : Int) : DAt (w.setCell ⟨y, 2, none⟩ (.int .i64 t)) b y E D t vL vC Z ∧ Kp (DT b w) w (w.setCell ⟨y, 2, none⟩ (.int .i64 t)) := by
  have hs := set_typed (w := w) y 2 (.int .i64 t) H.top
  exact ⟨⟨blk_put H.top 2 _ rfl, R_typed H.ents (fun k cs t hk ht => hs k cs t hk (by rw [List.mem_singleton.1 ht]; decide)), R_typed H.cnts (fun k cs t hk ht => hs k cs t hk (by rw [List.mem_singleton.1 ht]; decide)), H.eq, fun x hx => (H.rows x hx).typed (fun k cs t hk ht => hs k cs t hk (by rcases ht with rfl | rfl | rfl <;> decide)), H.hb, H.ons⟩, (Kp.refl _ _).setCell (.inl (dt_y H)) _⟩
set_option maxHeartbeats 1000000 in
set_option maxRecDepth 100000 in
theorem d_tick (d : Int) (H : DS w b y E D time) (h0 : 0 ≤ time) (h1 : time ≤ lst) (t : Int) (ht : timeU time d = t) (hD : D.length + E.length ≤ 8999) (hsE : Srt (tickE t E)) (hb : b ≤ w.heap.size) :
    Calls Try.prog 27 #[.pointer (some ⟨y, 0, none⟩), .int .i64 d] w fun e w' => e = .returned (.tuple #[]) ∧ Aside0 (DS w' b y (tickE t E) (tickD t E D) t) ∧ Aside0 (Kp (DT b w) w w') := by
  obtain ⟨⟨vL, vC, Z, hat⟩, hsrt, hnE, hnD⟩ := H
  obtain ⟨A1, c1, rfl, hc1, hC⟩ := Kd.R_reads hat.ents
  obtain ⟨n, hn1⟩ : ∃ n, Z.length = n := ⟨_, rfl⟩
  have HN := Aside0.mk hn1
  have HA := Aside0.mk hat
  have HS := Aside0.mk hsE
  have HNE := Aside0.mk (And.intro hnE hD)
  have hnl : n ≤ 900 := by rw [← hn1, hat.len]; exact hnE
  have h9 := hat.top
  rw [hn1] at hc1 h9
  have HTop := Aside0.mk h9
  have c0 : w.cell? ⟨y, 0, none⟩ = some (.slice A1 n c1) := by simp [World.cell?, h9]
  have ct : w.cell? ⟨y, 2, none⟩ = some (.int .i64 time) := by simp [World.cell?, h9]
  have ft : w.frozen? ⟨y, 2, none⟩ = false := by simp [World.frozen?, h9]
  have h0' := h0
  have h1' : time ≤ 1099511627776 := h1
  have ht1 : mn (wrap64 (time + mn (mx d 0) 1099511627776)) 1099511627776 = t := (time_eq h0 h1).trans ht
  have HTQ := Aside0.mk ht1
  clear h9 hC hn1 hat hsrt hnE hnD hD hsE ht1 ht
  go_enter Try.func27, Try.ntmps27
  obtain ⟨d', hd'⟩ : ∃ d', mx d 0 = d' := ⟨_, rfl⟩
  have HTT := Aside0.mk (show mn (wrap64 (time + mn d' 1099511627776)) 1099511627776 = t by rw [← hd']; exact HTQ.out)
  have hset := HA.out.setT t
  rw [HN.out] at hset
  obtain ⟨w0, hw0⟩ : ∃ w0, w.setCell ⟨y, 2, none⟩ (.int .i64 t) = w0 := ⟨_, rfl⟩
  rw [hw0] at hset
  have HA0 := Aside0.mk hset.1
  have HK0 := Aside0.mk hset.2
  clear hset
  have hmx : (d < 0 ∧ d' = 0) ∨ (¬ d < 0 ∧ d' = d) := by rw [← hd']; unfold mx; split <;> omega
  have hwr : IntKind.i64.wrap (time + mn d' 1099511627776) = wrap64 (time + mn d' 1099511627776) := IntWalk.i64_left _
  have hrest : ∀ (i : Nat) (hi : i < Z.length), ((Z.take i).map (tickZ1 t) ++ Z.drop i) = (Z.take i).map (tickZ1 t) ++ Z[i] :: Z.drop (i + 1) := fun i hi => by rw [List.drop_eq_getElem_cons hi]
  have HRE := Aside0.mk hrest
  have HZE := Aside0.mk HA.out.eq
  clear hrest hd' HTQ
  rcases hmx with ⟨hd, rfl⟩ | ⟨hd, rfl⟩
  all_goals
    have htt := HTT.out
    go_wp2
    clear htt hw0 hwr ct ft c0 hd
    go_loopw [5] (fun v5 wr => ∃ (i : Nat) (vC' : Value), v5 = .int .i64 i ∧ i ≤ n ∧ Aside0 (DAt wr b y (((Z.take i).map (tickZ1 t) ++ Z.drop i).map (·.e)) (tickD t (E.take i) D) t (.slice A1 n c1) vC' ((Z.take i).map (tickZ1 t) ++ Z.drop i)) ∧ Aside0 (Kp (DT b w) w wr)) (fun v5 _ => n - (match v5 with | .int _ i => i.toNat | _ => 0))
    case atStart => exact ⟨0, vC, rfl, Nat.zero_le _, ⟨by simp only [List.take_zero, List.map_nil, List.nil_append, List.drop_zero]; rw [HZE.out]; exact HA0.out⟩, HK0⟩
    case round =>
      clear HA0 HK0
      obtain ⟨i, vC', rfl, hi, HD, HK⟩ := hrel
      have ctp := HD.out.top
      have c0 : wr.cell? ⟨y, 0, none⟩ = some (.slice A1 n c1) := by simp [World.cell?, ctp]
      have ct : wr.cell? ⟨y, 2, none⟩ = some (.int .i64 t) := by simp [World.cell?, ctp]
      clear ctp
      by_cases hlt : i < n
      · have hI : (i : Int) < n := by omega
        have hiL : i < Z.length := by rw [HN.out]; exact hlt
        have hsp := HRE.out i hiL
        obtain ⟨x, hx⟩ : ∃ x, Z[i] = x := ⟨_, rfl⟩
        rw [hx] at hsp
        have HX := Aside0.mk hx
        have HSP := Aside0.mk hsp
        have HIL := Aside0.mk (show ((Z.take i).map (tickZ1 t)).length = i by rw [List.length_map, List.length_take]; omega)
        obtain ⟨n', c', g, hv, hn', hfo, hent⟩ := at_found HD.out hsp
        rw [HIL.out] at hfo
        injection hv with hv1 hv2 hv3
        subst hv1 hv2 hv3
        have HFO := Aside0.mk hfo
        have HENT := Aside0.mk hent
        have i1 := hfo.i1
        have d0 := hfo.d0
        have d6 := hfo.d6
        have d7 := hfo.d7
        have d8 := hfo.d8
        have HON := Aside0.mk (HD.out.ons x (by rw [hsp]; exact List.mem_append_right _ List.mem_cons_self))
        have HZ1 := Aside0.mk (show (Z.take (i + 1)).map (tickZ1 t) ++ Z.drop (i + 1) = (Z.take i).map (tickZ1 t) ++ tickZ1 t x :: Z.drop (i + 1) by rw [List.take_succ_eq_append_getElem hiL, List.map_append, hx]; simp)
        have HE1 := Aside0.mk (show tickD t (E.take (i + 1)) D = if dueNow t x.e then cntD x.e.key (tickD t (E.take i) D) else tickD t (E.take i) D by
          have : E.take (i + 1) = E.take i ++ [x.e] := by rw [← HZE.out, ← List.map_take, ← List.map_take, List.take_succ_eq_append_getElem hiL, List.map_append, hx]; rfl
          rw [this, tickD_snoc])
        clear hfo hent hn' hsp hx
        by_cases hdn : dueNow t x.e = true
        · have HTZ := Aside0.mk (show tickZ1 t x = { x with e := { x.e with past := true } } by unfold tickZ1 tick1; rw [hdn]; simp)
          have HDN := Aside0.mk hdn
          have hd2 := hdn
          unfold dueNow at hd2
          simp only [Bool.and_eq_true, Bool.not_eq_true'] at hd2
          obtain ⟨hp0, h6, h8⟩ := hd2
          rw [HON.out, hp0] at d7
          rw [h8] at d8
          have fr : ∀ j, wr.frozen? ⟨g, j, none⟩ = false := fun j => by obtain ⟨cells, hcells⟩ := HENT.out; simp [World.frozen?, hcells]
          have HREL := Aside0.mk (show ∀ j, DAt ((wr.drewN j).setCell ⟨g, i * 9 + 8, none⟩ (.bool true)) b y (((Z.take (i + 1)).map (tickZ1 t) ++ Z.drop (i + 1)).map (·.e)) (tickD t (E.take i) D) t (.slice (some ⟨g, 0, none⟩) n c1) vC' ((Z.take (i + 1)).map (tickZ1 t) ++ Z.drop (i + 1)) from fun j => by
            have hDj := HD.out.below (w1 := wr.drewN j) ⟨rfl, rfl, rfl, Nat.le_refl _, fun _ _ => rfl⟩
            have hen := hDj.ents
            rw [HSP.out] at hen
            have hR := en_putS hen i HIL.out 8 (by decide) (.bool true) { x with e := { x.e with past := true } } rfl
            rw [HZ1.out, HTZ.out]
            refine hDj.inE (g := g) HENT.out (fun q hq => Below.heap_setCell _ _ _ _ hq) hR (fun z hz => ?_) (fun z hz => ?_)
            · rcases List.mem_append.1 hz with h | h
              · exact hDj.rows z (by rw [HSP.out]; exact List.mem_append_left _ h)
              · rcases List.mem_cons.1 h with rfl | h
                · exact hDj.rows x (by rw [HSP.out]; exact List.mem_append_right _ List.mem_cons_self)
                · exact hDj.rows z (by rw [HSP.out]; exact List.mem_append_right _ (List.mem_cons_of_mem _ h))
            · rcases List.mem_append.1 hz with h | h
              · exact hDj.ons z (by rw [HSP.out]; exact List.mem_append_left _ h)
              · rcases List.mem_cons.1 h with rfl | h
                · exact hDj.ons x (by rw [HSP.out]; exact List.mem_append_right _ List.mem_cons_self)
                · exact hDj.ons z (by rw [HSP.out]; exact List.mem_append_right _ (List.mem_cons_of_mem _ h)))
          have HKJ := Aside0.mk (show ∀ j, Kp (DT b w) w ((wr.drewN j).setCell ⟨g, i * 9 + 8, none⟩ (.bool true)) from fun j => dt_trans (HK.out.drewN j) ((Kp.refl _ _).setCell (.inl (by obtain ⟨cells, hcells⟩ := HENT.out; exact ⟨Kd.R_base HD.out.ents g rfl, cells, _, hcells, .inr (.inl rfl)⟩)) _))
          have HTL := Aside0.mk (show (tickD t (E.take i) D).length ≤ 8999 by
            have h := tickD_len t (E.take i) D
            rw [List.length_take] at h
            have := HNE.out.2
            omega)
          clear hdn hp0
          go_wp2
          go_quiet (fail)
          all_goals go_wp2_with fail
          refine (d_count x.e.key (HREL.out _) HTL.out).mono ?_
          rintro e w4 ⟨rfl, HD4, HK4⟩
          have HKF := Aside0.mk (dt_trans (HKJ.out _) HK4.out)
          go_wp2
          go_roundw
          case rel =>
            obtain ⟨vC4, hD4⟩ := HD4.out
            exact ⟨i + 1, vC4, by simp, by omega, ⟨by rw [HE1.out, if_pos HDN.out]; exact hD4⟩, HKF⟩
          case measure => simp; omega
        · have HDN := Aside0.mk (show dueNow t x.e = false by simpa using hdn)
          have HTZ := Aside0.mk (show tickZ1 t x = x by unfold tickZ1 tick1; rw [show dueNow t x.e = false by simpa using hdn]; simp)
          have hdn2 := HDN.out
          unfold dueNow at hdn2
          have HREL := Aside0.mk (show ∀ j, DAt (wr.drewN j) b y (((Z.take (i + 1)).map (tickZ1 t) ++ Z.drop (i + 1)).map (·.e)) (tickD t (E.take (i + 1)) D) t (.slice (some ⟨g, 0, none⟩) n c1) vC' ((Z.take (i + 1)).map (tickZ1 t) ++ Z.drop (i + 1)) from fun j => by
            rw [HZ1.out, HTZ.out, ← HSP.out, HE1.out, HDN.out]
            exact HD.out.below ⟨rfl, rfl, rfl, Nat.le_refl _, fun _ _ => rfl⟩)
          have HKJ := Aside0.mk (show ∀ j, Kp (DT b w) w (wr.drewN j) from fun j => HK.out.drewN j)
          clear hdn
          cases h7 : x.on with
          | false =>
            rw [h7] at d7
            clear hdn2 h7
            go_wp2
            go_quiet (fail)
            all_goals go_wp2
            go_roundw
            case rel => exact ⟨i + 1, vC', by simp, by omega, ⟨HREL.out _⟩, ⟨HKJ.out _⟩⟩
            case measure => simp; omega
          | true =>
            rw [h7] at d7
            have hp0 : decide (0 < x.e.due) = true := by rw [← HON.out, h7]
            rw [hp0] at hdn2
            clear h7 hp0
            cases h6 : decide (x.e.due ≤ t) with
            | false =>
              clear hdn2
              go_wp2
              go_quiet (fail)
              all_goals go_wp2
              go_roundw
              case rel => exact ⟨i + 1, vC', by simp, by omega, ⟨HREL.out _⟩, ⟨HKJ.out _⟩⟩
              case measure => simp; omega
            | true =>
              rw [h6] at hdn2
              have h8 : x.e.past = true := by simpa using hdn2
              rw [h8] at d8
              clear hdn2 h8
              go_wp2
              go_quiet (fail)
              all_goals go_wp2
              go_roundw
              case rel => exact ⟨i + 1, vC', by simp, by omega, ⟨HREL.out _⟩, ⟨HKJ.out _⟩⟩
              case measure => simp; omega
      · obtain rfl : n = i := by omega
        have hI : ¬ ((n : Int) < n) := by omega
        have HFN := Aside0.mk (show DAt wr b y (tickE t E) (tickD t E D) t (.slice A1 n c1) vC' (Z.map (tickZ1 t)) by
          have h := HD.out
          have e1 : Z.take n = Z := List.take_of_length_le (by rw [HN.out]; exact Nat.le_refl _)
          have e2 : Z.drop n = [] := List.drop_eq_nil_of_le (by rw [HN.out]; exact Nat.le_refl _)
          have e3 : E.take n = E := List.take_of_length_le (by rw [← HZE.out, List.length_map, HN.out]; exact Nat.le_refl _)
          rw [e1, e2, e3, List.append_nil] at h
          have e4 : (Z.map (tickZ1 t)).map (·.e) = tickE t E := by
            rw [← HZE.out]
            unfold tickE
            rw [List.map_map, List.map_map]
            rfl
          rwa [e4] at h)
        go_wp2
        go_end0
        exact ⟨rfl, ⟨⟨_, _, _, HFN.out⟩, HS.out, by unfold tickE; rw [List.length_map]; exact HNE.out.1, Nat.le_trans (tickD_len t E D) (by have := HNE.out.2; omega)⟩, HK⟩
end
end Go.Proofs.Ytmhdkjihhdljlaa.X
namespace Go.Proofs.Ytmhdkjihhdljlaa.X
open Go.RowKit Go.Maps Go.ChangeMaps Go.MapKept Go.Proofs.Ytmhdkjihhdljlaa.Mv
section
variable {x : RX} {Z out : List RX} {i : Nat} {put : Bool}
def ltX (x z : RX) : Bool := decide (x.e.key.data.toList < z.e.key.data.toList)
def insG (x : RX) : List RX → List RX
  | [] => [x]
  | z :: Z => if ltX x z = true then x :: z :: Z else z :: insG x Z
theorem ltX_eq (x z : RX) : Op.bytesLess x.e.key.toList z.e.key.toList = ltX x z := by
  rw [Go.Proofs.bytesLess_eq, ByteArray.toList_eq, ByteArray.toList_eq]; rfl
theorem insG_len (x : RX) : ∀ Z, (insG x Z).length = Z.length + 1
  | [] => rfl
  | z :: Z => by
    unfold insG
    split
    · rfl
    · simp only [List.length_cons, insG_len x Z]
theorem insG_mem (x : RX) : ∀ (Z : List RX) (q : RX), q ∈ insG x Z → q = x ∨ q ∈ Z
  | [], q, h => .inl (List.mem_singleton.1 h)
  | z :: Z, q, h => by
    unfold insG at h
    split at h
    · exact List.mem_cons.1 h
    · rcases List.mem_cons.1 h with rfl | h
      · exact .inr List.mem_cons_self
      · exact (insG_mem x Z q h).elim .inl fun h => .inr (List.mem_cons_of_mem _ h)
theorem insG_E (x : RX) : ∀ (Z : List RX), Srt (Z.map (·.e)) → (∀ z ∈ Z, z.e.key ≠ x.e.key) → (insG x Z).map (·.e) = insE x.e (Z.map (·.e))
  | [], _, _ => by simp [insG, insE]
  | z :: Z, h, hno => by
    obtain ⟨h1, h2⟩ := List.pairwise_cons.1 (show List.Pairwise _ (z.e :: Z.map (·.e)) from h)
    have ih := insG_E x Z h2 fun q hq => hno q (List.mem_cons_of_mem _ hq)
    unfold insG
    by_cases hl : x.e.key.data.toList < z.e.key.data.toList
    · rw [if_pos (by unfold ltX; simpa using hl)]
      have hbig : ∀ e ∈ (z :: Z).map (·.e), ¬ (e.key.data.toList < x.e.key.data.toList) := fun e he => by
        rcases List.mem_cons.1 he with rfl | he
        · exact fun h => List.lt_irrefl _ (List.lt_trans h hl)
        · exact fun h => List.lt_irrefl _ (List.lt_trans h (List.lt_trans hl (h1 e he)))
      unfold insE
      rw [List.filter_eq_nil_iff.2 (fun e he => by simpa using hbig e he), List.filter_eq_self.2 (fun e he => by simpa using hbig e he)]
      rfl
    · rw [if_neg (by unfold ltX; simpa using hl)]
      have hlt : z.e.key.data.toList < x.e.key.data.toList := by
        rcases List.le_iff_lt_or_eq.1 (List.not_lt.1 hl) with h | h
        · exact h
        · exact absurd (ByteArray.ext (Array.ext' h)) (hno z List.mem_cons_self)
      rw [List.map_cons, ih, List.map_cons]
      unfold insE
      rw [List.filter_cons_of_pos (by simpa using hlt), List.filter_cons_of_neg (by simpa using hlt)]
      rfl
/-- Where Put stands behind the first so many. -/
def PutAt (x : RX) (Z : List RX) (i : Nat) (out : List RX) (put : Bool) : Prop :=
  (put = false ∧ out = Z.take i ∧ ∀ q ∈ Z.take i, ltX x q = false) ∨ (put = true ∧ ∀ R, insG x (Z.take i ++ R) = out ++ R)
theorem ins_skip : ∀ (A B : List RX), (∀ q ∈ A, ltX x q = false) → insG x (A ++ B) = A ++ insG x B
  | [], B, _ => rfl
  | q :: A, B, h => by
    rw [List.cons_append]
    conv => lhs; rw [insG]
    rw [if_neg (by rw [h q List.mem_cons_self]; decide), ins_skip A B (fun r hr => h r (List.mem_cons_of_mem _ hr))]
    rfl
theorem put_start (x : RX) (Z : List RX) : PutAt x Z 0 [] false := .inl ⟨rfl, rfl, fun q hq => by cases hq⟩
theorem put_len (h : PutAt x Z i out put) (hi : i ≤ Z.length) : out.length ≤ i + 1 := by
  rcases h with ⟨_, rfl, _⟩ | ⟨_, h⟩
  · rw [List.length_take]; omega
  · have h1 := congrArg List.length (h [])
    rw [insG_len, List.append_nil, List.append_nil, List.length_take] at h1
    omega
theorem put_yes (h : PutAt x Z i out false) (hi : i < Z.length) (hl : ltX x Z[i] = true) : PutAt x Z (i + 1) (out ++ [x] ++ [Z[i]]) true := by
  rcases h with ⟨_, rfl, h⟩ | ⟨h, _⟩
  · refine .inr ⟨rfl, fun R => ?_⟩
    rw [List.take_succ_eq_append_getElem hi, List.append_assoc, ins_skip _ _ h]
    simp [insG, hl]
  · cases h
theorem put_no (h : PutAt x Z i out put) (hi : i < Z.length) (hl : put = false → ltX x Z[i] = false) : PutAt x Z (i + 1) (out ++ [Z[i]]) put := by
  rcases h with ⟨rfl, rfl, h⟩ | ⟨rfl, h⟩
  · refine .inl ⟨rfl, (List.take_succ_eq_append_getElem hi).symm, fun q hq => ?_⟩
    rw [List.take_succ_eq_append_getElem hi] at hq
    rcases List.mem_append.1 hq with hq | hq
    · exact h q hq
    · rw [List.mem_singleton.1 hq]; exact hl rfl
  · refine .inr ⟨rfl, fun R => ?_⟩
    rw [List.take_succ_eq_append_getElem hi, List.append_assoc, h, List.append_assoc]
theorem put_end (h : PutAt x Z Z.length out put) : (if put = true then out else out ++ [x]) = insG x Z := by
  rcases h with ⟨rfl, rfl, h⟩ | ⟨rfl, h⟩
  · rw [List.take_length] at h ⊢
    have := ins_skip Z [] h
    rw [List.append_nil] at this
    rw [if_neg (by decide), this]
    rfl
  · have := h []
    rw [List.take_length, List.append_nil, List.append_nil] at this
    rw [if_pos rfl, this]
end
end Go.Proofs.Ytmhdkjihhdljlaa.X
namespace Go.Proofs.Ytmhdkjihhdljlaa.X
open Go.RowKit Go.Maps Go.ChangeMaps Go.MapKept Go.Proofs.Ytmhdkjihhdljlaa.Mv Go.Proofs.YtmhdkjihhdljlaaW.PrintWords Go.Proofs.YtmhdkjihhdljlaaW.PrintMore
section
variable {w w1 w2 : World} {b y : Nat} {E : List Ent} {D : List (ByteArray × Int)} {time : Int} {vL vC : Value} {Z Z1 Z2 : List RX} {x : RX}
attribute [local go_sem] binOp_str_gtr
theorem not_dt {u : World} {q : Nat} {cs : Array Value} (hu : u.heap[q]? = some (.cells cs 26 (0, 0))) : ¬ DT b u q := fun ⟨_, cs', t, h1, h2⟩ => by
  rw [hu] at h1
  injection h1 with h1
  injection h1 with _ h1 _
  subst h1
  rcases h2 with h | h | h <;> exact absurd h (by decide)
theorem dt_keep {u u' : World} {q : Nat} {cs : Array Value} (hk : Kp (DT b u) u u') (hu : u.heap[q]? = some (.cells cs 26 (0, 0))) : u'.heap[q]? = some (.cells cs 26 (0, 0)) := (hk.block q (pwlt hu) (not_dt hu)).trans hu
theorem dt_rows {u u' : World} {v : Vl} {v2 v3 v4 : Value} (h : RowsAt u b v v2 v3 v4) (hk : Kp (DT b u) u u') : RowsAt u' b v v2 v3 v4 := h.typed fun k cs t hc ht => hk.block k (pwlt hc) fun ⟨_, cs', t', h1, h2⟩ => by
  rw [hc] at h1
  injection h1 with h1
  injection h1 with _ h1 _
  subst h1
  rcases ht with rfl | rfl | rfl <;> rcases h2 with h | h | h <;> exact absurd h (by decide)
set_option maxHeartbeats 2000000 in
set_option maxRecDepth 100000 in
theorem d_put (k : ByteArray) (v : Vl) (A2 A3 A4 : Option Addr) (n2 n3 n4 c2 c3 c4 : Nat) (hv : RowsAt w b v (.slice A2 n2 c2) (.slice A3 n3 c3) (.slice A4 n4 c4)) (H : DS w b y E D time) (hb : b ≤ w.heap.size) (hD : D.length ≤ 8999) (E' : List Ent) (hE : putE k v E = E') (hsE : Srt E') (hlE : E'.length ≤ 900) (D' : List (ByteArray × Int)) (hDD : (if v.kind = 0 ∧ fndE k (letE k E) = none then D else cntD k D) = D') :
    Calls Try.prog 28 #[.pointer (some ⟨y, 0, none⟩), .string k, .agg #[.int .u8 v.kind, .string v.s, .slice A2 n2 c2, .slice A3 n3 c3, .slice A4 n4 c4]] w fun e w' => e = .returned (.tuple #[]) ∧ Aside0 (DS w' b y E' D' time) ∧ Aside0 (Kp (DT b w) w w') := by
  have HDD := Aside0.mk hDD
  clear hDD
  obtain ⟨w0, hw0, HB0, HC0⟩ := named_alloc w #[.int .u8 v.kind, .string v.s, .slice A2 n2 c2, .slice A3 n3 c3, .slice A4 n4 c4] 26
  have HH := Aside0.mk (H.below HB0.out)
  have HV0 := Aside0.mk (hv.typed (w1 := w0) fun k cs t hc _ => HB0.out.block k (pwlt hc))
  have HBW := Aside0.mk hb
  have HE := Aside0.mk hE
  have HSE := Aside0.mk (And.intro hsE hlE)
  clear H hv hb hE hsE hlE
  obtain ⟨q, hq⟩ : ∃ q, w.heap.size = q := ⟨_, rfl⟩
  have HQ := Aside0.mk hq
  rw [hq] at HC0
  go_enter Try.func28, Try.ntmps28
  go_wp2_with fail
  clear hw0 hq
  refine (d_let k HH.out).mono ?_
  rintro e w1 ⟨rfl, HD1, HK1⟩
  have HC1 := Aside0.mk (dt_keep HK1.out HC0.out)
  have HV1 := Aside0.mk (dt_rows HV0.out HK1.out)
  have HK01 := Aside0.mk (dt_trans (dt_below HB0.out) HK1.out)
  obtain ⟨E1, hE1⟩ : ∃ E1, letE k E = E1 := ⟨_, rfl⟩
  have HE1 := Aside0.mk hE1
  rw [hE1] at HD1
  clear hE1
  obtain ⟨⟨vL, vC, Z, hat⟩, hsrt, hnE, hnD⟩ := HD1.out
  have HA := Aside0.mk hat
  have HZL := Aside0.mk (show Z.length ≤ 1000 by rw [hat.len]; omega)
  have HNE := Aside0.mk hnE
  have HLN := Aside0.mk (Nat.le_trans (cnt_len k D) (Nat.succ_le_succ hD))
  clear hat hsrt hnE hnD
  go_wp2_with fail
  refine (d_find k HA.out HZL.out).mono ?_
  rintro e w2 ⟨r, rfl, HF, hw2⟩
  subst hw2
  obtain ⟨z0, z1, z2, z3, z4⟩ := cells5 HC1.out
  by_cases hk0 : v.kind = 0
  · have hk1 : (v.kind == 0) = true := by simpa using hk0
    have HK0 := Aside0.mk hk0
    clear hk0 z1 z2 z3 z4
    rcases HF.out with ⟨rfl, hno⟩ | ⟨Z1, x, Z2, hZ, rfl, hk, hno⟩
    · have HNO := Aside0.mk (no_fnd (none_E HA.out hno))
      clear hno HF
      go_wp2
      (try simp only [Exit.inBlock, Exit.then]); refine bodyPost_ret (results_none rfl _ _ _) rfl ?_
      refine ⟨rfl, ⟨?_⟩, HK01⟩
      have h1 : fndE k (letE k E) = none := by rw [HE1.out]; exact HNO.out
      have h2 : putE k v E = E1 := by unfold putE; rw [h1]; simp [HK0.out, HE1.out]
      have h3 := HDD.out
      rw [if_pos ⟨HK0.out, h1⟩] at h3
      rw [← HE.out, h2, ← h3]
      exact HD1.out
    · have HX := Aside0.mk (show fndE k (letE k E) = some x.e by rw [HE1.out, found_E HA.out hZ]; exact sp_fnd (pre_E hno) hk)
      have HSP := Aside0.mk (And.intro hZ (And.intro hk hno))
      obtain ⟨i, hi⟩ : ∃ i, Z1.length = i := ⟨_, rfl⟩
      have HI := Aside0.mk hi
      have ng : decide ((i : Int) < 0) = false := by simp
      have i1 : (0 : Int) ≤ i := by omega
      rw [hi]
      clear hi hno hk hZ HF
      go_wp2_with fail
      refine (d_drop Z1 x Z2 HSP.out.1 i HI.out HA.out HZL.out).mono ?_
      rintro e w3 ⟨rfl, HD3, HK3⟩
      obtain ⟨vL3, hat3⟩ := HD3.out
      go_wp2_with fail
      refine (d_count k hat3 hD).mono ?_
      rintro e w4 ⟨rfl, HD4, HK4⟩
      go_wp2
      (try simp only [Exit.inBlock, Exit.then]); refine bodyPost_ret (results_none rfl _ _ _) rfl ?_
      obtain ⟨vC4, hat4⟩ := HD4.out
      have h2 : putE k v E = (Z1 ++ Z2).map (·.e) := by
        unfold putE
        rw [HX.out]
        simp only [HK0.out, if_true]
        rw [HE1.out, found_E HA.out HSP.out.1, sp_drop (by rw [← found_E HA.out HSP.out.1]; exact HD1.out.srt) HSP.out.2.1, List.map_append]
      refine ⟨rfl, ⟨?_⟩, ⟨dt_trans (dt_trans HK01.out HK3.out) HK4.out⟩⟩
      have h3 := HDD.out
      rw [if_neg (by rw [HX.out]; simp)] at h3
      rw [← h3]
      exact ⟨⟨_, _, _, by rw [← HE.out, h2]; exact hat4⟩, HSE.out.1, HSE.out.2, HLN.out⟩
  · have hk1 : (v.kind == 0) = false := by simpa using hk0
    have HK0 := Aside0.mk hk0
    clear hk0
    go_wp2_with fail
    clear z0 z1 z2 z3 z4
    refine (d_count k HA.out hD).mono ?_
    rintro e w3 ⟨rfl, HD3, HK3⟩
    obtain ⟨vC3, hat3⟩ := HD3.out
    have HA3 := Aside0.mk hat3
    have HC3 := Aside0.mk (dt_keep HK3.out HC1.out)
    have HV3 := Aside0.mk (dt_rows HV1.out HK3.out)
    have HK03 := Aside0.mk (dt_trans HK01.out HK3.out)
    obtain ⟨z0, z1, z2, z3, z4⟩ := cells5 HC3.out
    clear hat3
    rcases HF.out with ⟨rfl, hno⟩ | ⟨Z1, x, Z2, hZ, rfl, hk, hno⟩
    · have HNO := Aside0.mk (none_E HA.out hno)
      clear hno HF
      go_wp2
      obtain ⟨x, hx⟩ : ∃ x : RX, (⟨⟨k, v, 0, false⟩, (A2, n2, c2), (A3, n3, c3), (A4, n4, c4), false⟩ : RX) = x := ⟨_, rfl⟩
      have HX := Aside0.mk hx
      have HM := Aside0.mk (fun (u : World) => show kEn.M u w3.heap.size (fun _ => False) x [.string k, .int .u8 v.kind, .string v.s, .slice A2 n2 c2, .slice A3 n3 c3, .slice A4 n4 c4, .int .i64 0, .bool false, .bool false] by rw [← hx]; exact en_mkM u w3.heap.size (fun _ => False) _)
      have HEND := Aside0.mk (show ∀ (u : World) (vv : Value) (Z' : List RX), Below w3.heap.size w3 u → Kd.R kEn 80 u w3.heap.size (fun _ => True) vv Z' → Z' = insG x Z → Aside0 (DS (u.setCell ⟨y, 0, none⟩ vv) b y E' D' time) ∧ Aside0 (Kp (DT b w) w (u.setCell ⟨y, 0, none⟩ vv)) from fun u vv Z' hB hR hZ' => by
        subst hZ'
        have hDu := HA3.out.below hB
        have hb3 : b ≤ w3.heap.size := Nat.le_trans HBW.out HK03.out.size
        have hvu : RowsAt u b v (.slice A2 n2 c2) (.slice A3 n3 c3) (.slice A4 n4 c4) := HV3.out.typed fun k cs t hk _ => hB.block k (pwlt hk)
        have hxk : x.e.key = k := by rw [← HX.out]
        have hfin := hDu.setL (vL' := vv) (Z' := insG x Z) (Kd.R_lower hR hb3) (fun z hz => by
          rcases insG_mem x Z z hz with rfl | hz
          · rw [← HX.out]; exact hvu
          · exact hDu.rows z hz) (fun z hz => by
          rcases insG_mem x Z z hz with rfl | hz
          · rw [← HX.out]; rfl
          · exact hDu.ons z hz)
        have hs : putE k v E = (insG x Z).map (·.e) := by
          unfold putE
          rw [HE1.out, no_fnd HNO.out]
          simp only
          rw [if_neg HK0.out, insG_E x Z (by rw [HA3.out.eq]; exact HD1.out.srt) (fun z hz => by rw [hxk]; exact HNO.out z.e (by rw [← HA3.out.eq]; exact List.mem_map_of_mem hz)), HA3.out.eq, ← HX.out]
        have h3 := HDD.out
        rw [if_neg (fun h => HK0.out h.1)] at h3
        rw [← h3, ← HE.out]
        exact ⟨⟨⟨_, _, _, hs ▸ hfin.1⟩, HE.out ▸ HSE.out.1, HE.out ▸ HSE.out.2, HLN.out⟩, ⟨dt_trans (dt_trans HK03.out (dt_below hB)) hfin.2⟩⟩)
      clear hx z0 z1 z2 z3 z4
      obtain ⟨A1, c1, e1, hc1, hC⟩ := Kd.R_reads HA3.out.ents
      subst e1
      obtain ⟨n, hn1⟩ : ∃ n, Z.length = n := ⟨_, rfl⟩
      have HN := Aside0.mk hn1
      have HC := Aside0.mk hC
      have hnl : n ≤ 1000 := hn1 ▸ HZL.out
      have h1 := HA3.out.top
      rw [hn1] at hc1 h1
      have HT := Aside0.mk h1
      clear h1 hC hn1
      have HB0 := Aside0.mk (show Below w3.heap.size w3 (w3.alloc (.cells #[] 80)) from (Below.refl _ _).alloc (Nat.le_refl _) _)
      have HO0 := Aside0.mk (en_empty w3)
      go_loopw [7, 8, 9] (fun v7 v8 v9 wr => ∃ (i : Nat) (out : List RX) (put : Bool), v9 = .int .i64 i ∧ v8 = .bool put ∧ i ≤ n ∧ Aside0 (Kd.R kEn 80 wr w3.heap.size (fun _ => True) v7 out) ∧ Aside0 (PutAt x Z i out put) ∧ Aside0 (Below w3.heap.size w3 wr)) (fun _ _ v9 _ => n - (match v9 with | .int _ i => i.toNat | _ => 0))
      case atStart => exact ⟨0, [], false, rfl, rfl, Nat.zero_le _, HO0, ⟨put_start _ _⟩, HB0⟩
      case round =>
        clear HO0 HB0
        obtain ⟨i, xs, put, rfl, rfl, hi, HO, HPA, HB⟩ := hrel
        have HTR := Aside0.mk ((HB.out.block y (pwlt HT.out)).trans HT.out)
        have c0 : wr.cell? ⟨y, 0, none⟩ = some (.slice A1 n c1) := by simp [World.cell?, HTR.out]
        have f0 : wr.frozen? ⟨y, 0, none⟩ = false := by simp [World.frozen?, HTR.out]
        obtain ⟨b0, b1, b2, b3, b4⟩ := cells5 ((HB.out.block q (pwlt HC3.out)).trans HC3.out)
        obtain ⟨A6, c6, e6⟩ := Kd.R_slice HO.out
        obtain ⟨q6, hq6⟩ : ∃ q, xs.length = q := ⟨_, rfl⟩
        have hq6l : q6 ≤ 2000 := by rw [← hq6]; exact Nat.le_trans (put_len HPA.out (by rw [HN.out]; exact hi)) (by omega)
        rw [hq6] at e6
        subst e6
        have HQ6 := Aside0.mk hq6
        clear hq6
        by_cases hlt : i < n
        · have hI : (i : Int) < n := by omega
          obtain ⟨ad, e0, _⟩ := (HC.out).2.2 (by rw [HN.out]; omega)
          subst e0
          have hiL : i < Z.length := by rw [HN.out]; exact hlt
          obtain ⟨d0, d1, d2, d3, d4, d5, d6, d7, d8⟩ := en_cells HC.out hiL
          have HPN := Aside0.mk (fun h => put_no HPA.out hiL h)
          have HPY := Aside0.mk (fun (h : put = false) hl => put_yes (h ▸ HPA.out) hiL hl)
          obtain ⟨z, hz⟩ : ∃ z, Z[i] = z := ⟨_, rfl⟩
          obtain ⟨p, hp⟩ : ∃ p, ad.add (i * 9) = p := ⟨_, rfl⟩
          rw [hz, hp] at d0 d1 d2 d3 d4 d5 d6 d7 d8
          rw [hz] at HPN HPY
          have HD := Aside0.mk (And.intro d0 (And.intro d1 (And.intro d2 (And.intro d3 (And.intro d4 (And.intro d5 (And.intro d6 (And.intro d7 d8))))))))
          have hbc : ∀ (a : Addr) v, w3.cell? a = some v → wr.cell? a = some v := fun a v ha => (HB.out.cell (World.block_lt_of_cell? _ _ ha)).trans ha
          replace d0 := hbc _ _ d0
          replace d1 := hbc _ _ d1
          replace d2 := hbc _ _ d2
          replace d3 := hbc _ _ d3
          replace d4 := hbc _ _ d4
          replace d5 := hbc _ _ d5
          replace d6 := hbc _ _ d6
          replace d7 := hbc _ _ d7
          replace d8 := hbc _ _ d8
          clear hz hbc
          have HMz := Aside0.mk (fun (u : World) => en_mkM u w3.heap.size (fun _ => False) z)
          cases put with
          | true =>
            go_wp2_with (at_builtin; go_loud (refine Kd.R_append kEn (w0 := w3) w3.heap.size rfl _ _ 53 80 (.agg #[.string ⟨#[]⟩, .int .u8 0, .string ⟨#[]⟩, .slice none 0 0, .slice none 0 0, .slice none 0 0, .int .i64 0, .bool false, .bool false]) 128 rfl Try.underlying53 infoE rfl (by decide) (by decide) (.slice A6 q6 c6) xs z [.string z.e.key, .int .u8 z.e.v.kind, .string z.e.v.s, sl z.a2, sl z.a3, sl z.a4, .int .i64 z.e.due, .bool z.on, .bool z.e.past] (fun _ => True) (fun _ => False) rfl rfl (HMz.out _) (fun _ h => h.elim) (fun _ _ => trivial) HO.out HB.out HB.out.size (by rw [HQ6.out]; omega) ?_; intro v4 w4 ho hb4 hg4 hat; have HO4 := Aside0.mk ho; have HB4 := Aside0.mk hb4; clear ho hb4 hg4 hat))
            go_roundw
            case rel => exact ⟨i + 1, xs ++ [z], true, by simp, rfl, by omega, HO4, ⟨HPN.out (fun h => by cases h)⟩, HB4⟩
            case measure => simp; omega
          | false =>
            have hlx := ltX_eq x z
            rw [← HX.out] at hlx
            simp only at hlx
            cases hl : ltX x z with
            | false =>
              have HLL := Aside0.mk hl
              have hls : Op.bytesLess k.toList z.e.key.toList = false := by rw [hlx, HX.out, hl]
              clear hl hlx
              go_wp2_with (at_builtin; go_loud (refine Kd.R_append kEn (w0 := w3) w3.heap.size rfl _ _ 53 80 (.agg #[.string ⟨#[]⟩, .int .u8 0, .string ⟨#[]⟩, .slice none 0 0, .slice none 0 0, .slice none 0 0, .int .i64 0, .bool false, .bool false]) 128 rfl Try.underlying53 infoE rfl (by decide) (by decide) (.slice A6 q6 c6) xs z [.string z.e.key, .int .u8 z.e.v.kind, .string z.e.v.s, sl z.a2, sl z.a3, sl z.a4, .int .i64 z.e.due, .bool z.on, .bool z.e.past] (fun _ => True) (fun _ => False) rfl rfl (HMz.out _) (fun _ h => h.elim) (fun _ _ => trivial) HO.out HB.out HB.out.size (by rw [HQ6.out]; omega) ?_; intro v4 w4 ho hb4 hg4 hat; have HO4 := Aside0.mk ho; have HB4 := Aside0.mk hb4; clear ho hb4 hg4 hat))
              go_roundw
              case rel => exact ⟨i + 1, xs ++ [z], false, by simp, rfl, by omega, HO4, ⟨HPN.out (fun _ => HLL.out)⟩, HB4⟩
              case measure => simp; omega
            | true =>
              have HLL := Aside0.mk hl
              have hls : Op.bytesLess k.toList z.e.key.toList = true := by rw [hlx, HX.out, hl]
              clear hl hlx
              have HC0 := Aside0.mk (show w3.cell? ⟨y, 0, none⟩ = some (.slice (some ad) n c1) by simp [World.cell?, HT.out])
              go_wp2_with (first
                | (at_builtin; go_loud (refine Kd.R_append kEn (w0 := w3) w3.heap.size rfl _ _ 53 80 (.agg #[.string ⟨#[]⟩, .int .u8 0, .string ⟨#[]⟩, .slice none 0 0, .slice none 0 0, .slice none 0 0, .int .i64 0, .bool false, .bool false]) 128 rfl Try.underlying53 infoE rfl (by decide) (by decide) (.slice A6 q6 c6) xs x [.string k, .int .u8 v.kind, .string v.s, .slice A2 n2 c2, .slice A3 n3 c3, .slice A4 n4 c4, .int .i64 0, .bool false, .bool false] (fun _ => True) (fun _ => False) (by rfl) (by rfl) (HM.out _) (fun _ h => h.elim) (fun _ _ => trivial) HO.out HB.out HB.out.size (by rw [HQ6.out]; omega) ?_; intro v4 w4 ho hb4 hg4 hat; have HO4 := Aside0.mk ho; have HB4 := Aside0.mk hb4; clear ho hb4 hg4 hat; have y0 := (HB4.out.cell (World.block_lt_of_cell? _ _ HC0.out)).trans HC0.out; obtain ⟨e0, e1, e2, e3, e4, e5, e6, e7, e8⟩ := HD.out; have y1 := (HB4.out.cell (World.block_lt_of_cell? _ _ e0)).trans e0; have y2 := (HB4.out.cell (World.block_lt_of_cell? _ _ e1)).trans e1; have y3 := (HB4.out.cell (World.block_lt_of_cell? _ _ e2)).trans e2; have y4 := (HB4.out.cell (World.block_lt_of_cell? _ _ e3)).trans e3; have y5 := (HB4.out.cell (World.block_lt_of_cell? _ _ e4)).trans e4; have y6 := (HB4.out.cell (World.block_lt_of_cell? _ _ e5)).trans e5; have y7 := (HB4.out.cell (World.block_lt_of_cell? _ _ e6)).trans e6; have y8 := (HB4.out.cell (World.block_lt_of_cell? _ _ e7)).trans e7; have y9 := (HB4.out.cell (World.block_lt_of_cell? _ _ e8)).trans e8; clear e0 e1 e2 e3 e4 e5 e6 e7 e8))
                | (at_builtin; go_loud (refine Kd.R_append kEn (w0 := w3) w3.heap.size rfl _ _ 53 80 (.agg #[.string ⟨#[]⟩, .int .u8 0, .string ⟨#[]⟩, .slice none 0 0, .slice none 0 0, .slice none 0 0, .int .i64 0, .bool false, .bool false]) 128 rfl Try.underlying53 infoE rfl (by decide) (by decide) v4 (xs ++ [x]) z [.string z.e.key, .int .u8 z.e.v.kind, .string z.e.v.s, sl z.a2, sl z.a3, sl z.a4, .int .i64 z.e.due, .bool z.on, .bool z.e.past] (fun _ => True) (fun _ => False) (by rfl) (by rfl) (HMz.out _) (fun _ h => h.elim) (fun _ _ => trivial) HO4.out HB4.out HB4.out.size (by rw [List.length_append, HQ6.out]; simp; omega) ?_; intro v5 w5 ho hb5 hg5 hat; have HO5 := Aside0.mk ho; have HB5 := Aside0.mk hb5; clear ho hb5 hg5 hat)))
              go_roundw
              case rel => exact ⟨i + 1, xs ++ [x] ++ [z], true, by simp, rfl, by omega, HO5, ⟨HPY.out (by first | trivial | rfl) HLL.out⟩, HB5⟩
              case measure => simp; omega
        · obtain rfl : n = i := by omega
          have hI : ¬ ((n : Int) < n) := by omega
          have HPE := Aside0.mk (put_end (show PutAt x Z Z.length xs put by rw [HN.out]; exact HPA.out))
          cases put with
          | true =>
            go_wp2
            go_end0
            exact ⟨rfl, HEND.out _ _ _ HB.out HO.out (by rw [← HPE.out]; rfl)⟩
          | false =>
            go_wp2_with (at_builtin; go_loud (refine Kd.R_append kEn (w0 := w3) w3.heap.size rfl _ _ 53 80 (.agg #[.string ⟨#[]⟩, .int .u8 0, .string ⟨#[]⟩, .slice none 0 0, .slice none 0 0, .slice none 0 0, .int .i64 0, .bool false, .bool false]) 128 rfl Try.underlying53 infoE rfl (by decide) (by decide) (.slice A6 q6 c6) xs x [.string k, .int .u8 v.kind, .string v.s, .slice A2 n2 c2, .slice A3 n3 c3, .slice A4 n4 c4, .int .i64 0, .bool false, .bool false] (fun _ => True) (fun _ => False) rfl rfl (HM.out _) (fun _ h => h.elim) (fun _ _ => trivial) HO.out HB.out HB.out.size (by rw [HQ6.out]; omega) ?_; intro v4 w4 ho hb4 hg4 hat; obtain ⟨A7, c7, e7⟩ := Kd.R_slice ho; obtain ⟨q7, hq7⟩ : ∃ q, (xs ++ [x]).length = q := ⟨_, rfl⟩; rw [hq7] at e7; subst e7; clear hq7; have HO4 := Aside0.mk ho; have HB4 := Aside0.mk hb4; have HTr := Aside0.mk ((hb4.block y (pwlt HT.out)).trans HT.out); have y0 : w4.cell? ⟨y, 0, none⟩ = some (.slice A1 n c1) := (by simp [World.cell?, HTr.out]); have g0 : w4.frozen? ⟨y, 0, none⟩ = false := (by simp [World.frozen?, HTr.out]); clear ho hb4 hg4 hat))
            go_end0
            exact ⟨rfl, HEND.out _ _ _ HB4.out HO4.out (by rw [← HPE.out]; rfl)⟩
    · have HX := Aside0.mk (show fndE k (letE k E) = some x.e by rw [HE1.out, found_E HA.out hZ]; exact sp_fnd (pre_E hno) hk)
      have HSP := Aside0.mk (And.intro hZ (And.intro hk hno))
      obtain ⟨n, c, g, hvL, hn, hfo, hent⟩ := at_found HA3.out hZ
      obtain ⟨i, hi⟩ : ∃ i, Z1.length = i := ⟨_, rfl⟩
      have HI := Aside0.mk hi
      rw [hi] at hfo ⊢
      have HFO := Aside0.mk hfo
      have HENT := Aside0.mk hent
      subst hvL
      have c0 := HFO.out.c0
      have i1 := HFO.out.i1
      have i2 := HFO.out.i2
      have d1 := HFO.out.d1
      have d2 := HFO.out.d2
      have d3 := HFO.out.d3
      have d4 := HFO.out.d4
      have d5 := HFO.out.d5
      have fr : ∀ j, w3.frozen? ⟨g, j, none⟩ = false := fun j => by obtain ⟨cells, hcells⟩ := hent; simp [World.frozen?, hcells]
      have ng : decide ((i : Int) < 0) = false := by simp
      have z0' : w3.drew.cell? ⟨q, 0, none⟩ = some (.int .u8 v.kind) := z0
      have HDT := Aside0.mk (show DT b w3 g from by obtain ⟨cells, hcells⟩ := hent; exact ⟨Kd.R_base HA3.out.ents g rfl, cells, _, hcells, .inr (.inl rfl)⟩)
      have HSR := Aside0.mk (show Srt (Z1.map (·.e) ++ x.e :: Z2.map (·.e)) by rw [← found_E HA.out HSP.out.1]; exact HD1.out.srt)
      have HLE := Aside0.mk (found_E HA.out HSP.out.1)
      have HFR := Aside0.mk (show ∀ z ∈ Z1 ++ Z2, RowsAt w3 b z.e.v (sl z.a2) (sl z.a3) (sl z.a4) ∧ z.on = decide (0 < z.e.due) from fun z hz => by
        have hm : z ∈ Z := by
          rw [HSP.out.1]
          rcases List.mem_append.1 hz with h | h
          · exact List.mem_append_left _ h
          · exact List.mem_append_right _ (List.mem_cons_of_mem _ h)
        exact ⟨HA3.out.rows z hm, HA3.out.ons z hm⟩)
      have HOX := Aside0.mk (HA3.out.ons x (by rw [HSP.out.1]; exact List.mem_append_right _ List.mem_cons_self))
      have HEN := Aside0.mk (show Kd.R kEn 80 w3 b (fun _ => True) (.slice (some ⟨g, 0, none⟩) n c) (Z1 ++ x :: Z2) by have := HA3.out.ents; rw [HSP.out.1] at this; exact this)
      clear hi hno hk hZ HF hfo hent hn
      go_wp2
      go_still_tail 8, (by kernel_rfl)
      go_wp2
      (try simp only [Exit.inBlock, Exit.then]); refine bodyPost_ret (results_none rfl _ _ _) rfl ?_
      obtain ⟨x', hx'⟩ : ∃ x' : RX, (⟨{ x.e with v := v }, (A2, n2, c2), (A3, n3, c3), (A4, n4, c4), x.on⟩ : RX) = x' := ⟨_, rfl⟩
      have r1 := en_putS (en_putS (en_putS (en_putS (en_putS HEN.out i HI.out 1 (by decide) (.int .u8 v.kind) { x with e := { x.e with v := { x.e.v with kind := v.kind } } } rfl) i HI.out 2 (by decide) (.string v.s) { x with e := { x.e with v := { x.e.v with kind := v.kind, s := v.s } } } rfl) i HI.out 3 (by decide) (.slice A2 n2 c2) { x with e := { x.e with v := { x.e.v with kind := v.kind, s := v.s } }, a2 := (A2, n2, c2) } rfl) i HI.out 4 (by decide) (.slice A3 n3 c3) { x with e := { x.e with v := { x.e.v with kind := v.kind, s := v.s } }, a2 := (A2, n2, c2), a3 := (A3, n3, c3) } rfl) i HI.out 5 (by decide) (.slice A4 n4 c4) x' (by rw [← hx']; rfl)
      have hm : ∀ (P : RX → Prop), (∀ z ∈ Z1 ++ Z2, P z) → P x' → ∀ z ∈ Z1 ++ x' :: Z2, P z := fun P h1 h2 z hz => by
        rcases List.mem_append.1 hz with h | h
        · exact h1 z (List.mem_append_left _ h)
        · rcases List.mem_cons.1 h with rfl | h
          · exact h2
          · exact h1 z (List.mem_append_right _ h)
      have hcs : ∀ (u : World) (q : Nat), q ≠ g → u.drew.heap[q]? = u.heap[q]? := fun _ _ _ => rfl
      have r2 := HA3.out.inE (g := g) HENT.out (fun q hq => by
        show ((((((w3.setCell _ _).setCell _ _).setCell _ _).setCell _ _).setCell _ _).drew).heap[q]? = _
        rw [hcs _ _ hq, Below.heap_setCell _ _ _ _ hq, Below.heap_setCell _ _ _ _ hq, Below.heap_setCell _ _ _ _ hq, Below.heap_setCell _ _ _ _ hq, Below.heap_setCell _ _ _ _ hq]) (Kd.R_drew r1) (hm _ (fun z hz => (HFR.out z hz).1) (by rw [← hx']; exact HV3.out)) (hm _ (fun z hz => (HFR.out z hz).2) (by rw [← hx']; exact HOX.out))
      have hs : putE k v E = (Z1 ++ x' :: Z2).map (·.e) := by
        unfold putE
        rw [HX.out]
        simp only
        rw [if_neg HK0.out, HE1.out, HLE.out, sp_upd HSR.out HSP.out.2.1, List.map_append, List.map_cons, ← hx']
      have h3 := HDD.out
      rw [if_neg (fun h => HK0.out h.1)] at h3
      rw [← h3, ← HE.out]
      have kp := (((((Kp.refl (DT b w3) w3).setCell (a := ⟨g, i * 9 + 1, none⟩) (.inl HDT.out) (.int .u8 v.kind)).setCell (a := ⟨g, i * 9 + 1 + 1, none⟩) (.inl HDT.out) (.string v.s)).setCell (a := ⟨g, i * 9 + 1 + 2, none⟩) (.inl HDT.out) (.slice A2 n2 c2)).setCell (a := ⟨g, i * 9 + 1 + 3, none⟩) (.inl HDT.out) (.slice A3 n3 c3)).setCell (a := ⟨g, i * 9 + 1 + 4, none⟩) (.inl HDT.out) (.slice A4 n4 c4)
      exact ⟨rfl, ⟨⟨_, _, _, hs ▸ r2⟩, HE.out ▸ HSE.out.1, HE.out ▸ HSE.out.2, HLN.out⟩, ⟨dt_trans HK03.out kp.drew⟩⟩
end
end Go.Proofs.Ytmhdkjihhdljlaa.X
