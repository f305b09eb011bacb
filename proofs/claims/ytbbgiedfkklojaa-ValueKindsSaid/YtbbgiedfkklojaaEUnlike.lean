/- What value.unlike gives: whether marks' names are unlike. -/
import Derived.Test.YtbbgiedfkklojaaEOrd
import Derived.Test.YtbbgiedfkklojaaSh
import Derived.Sort.Walk0
set_option linter.unusedVariables false
set_option linter.unusedSimpArgs false
namespace Go.Proofs.Ytbbgiedfkklojaa.X
open Go.RowKit Go.Lib Go.Proofs.YtbbgiedfkklojaaW.PrintWords Go.Proofs.YtbbgiedfkklojaaW.PrintLast Go.Proofs.YtbbgiedfkklojaaW.PrintMore
attribute [local go_sem] max2_int min2_int max_two min_two max_three min_three max_four min_four

def sortB (xs : List ByteArray) : List ByteArray := ((xs.map (fun s => s.data.toList)).mergeSort (fun x y => decide (x ≤ y))).map (fun l => (⟨l.toArray⟩ : ByteArray))
theorem sortB_len (xs : List ByteArray) : (sortB xs).length = xs.length := by unfold sortB; simp

theorem mapBlock_other (w : World) (g : Nat) (f : Array Value → Array Value) (k : Nat) (h : k ≠ g) : (Go.Sort.mapBlock w g f).heap[k]? = w.heap[k]? := by
  unfold Go.Sort.mapBlock
  simp only [Array.getElem?_modify]
  rw [if_neg (fun e => h e.symm)]

theorem sort_calls {w0 : World} {base : Nat} {ok : Nat → Prop} (A : Option Addr) (c : Nat) (xs : List ByteArray) (W : World) (HR : Kd.R Kd.string 9 W base ok (.slice A xs.length c) xs) (HB : Below base w0 W) (hl : xs.length ≤ 1000000) :
    Calls Try.prog 55 #[.slice A xs.length c] W fun e w' => e = .returned (.tuple #[]) ∧ Below base w0 w' ∧ Kd.C Kd.string w' A xs.length (sortB xs) := by
  have hn : (sortB xs).length = xs.length := sortB_len xs
  obtain ⟨_, inner, ⟨ho1, ho2⟩, _⟩ := id HR
  rcases ho2 with ⟨he, h0⟩ | ⟨g, cap, cur, he, hg, hh, _⟩
  · obtain rfl : A = none := by injection he
    rw [h0]
    refine (Try.slices_Sort_string_none none c W).mono ?_
    rintro e w' ⟨rfl, rfl⟩
    refine ⟨rfl, HB, ⟨by rw [hn, h0], by simp, fun h => absurd h (by simp)⟩⟩
  · injection he with he1 he2 he3
    subst he1
    have hgs : g < W.heap.size := by
      rcases Nat.lt_or_ge g W.heap.size with h | h
      · exact h
      · rw [Array.getElem?_eq_none h] at hh; cases hh
    have hss : (xs.map (fun s => s.data.toList)).length = xs.length := by simp
    have hH : Go.Sort.Holds encStr W g 0 (xs.map (fun s => s.data.toList)).toArray := by
      intro j hj
      have hj' : j < xs.length := by simpa using hj
      have hc := Kd.R_cell (d := ByteArray.empty) HR (j : Int) (by omega) (by omega)
      rw [Int.toNat_natCast] at hc
      rw [Nat.zero_add]
      refine ⟨hc.1.trans ?_, hc.2⟩
      congr 1
      have : rdOf ByteArray.empty xs (j : Int) = xs[j] := by unfold rdOf; rw [Int.toNat_natCast, List.getD_eq_getElem?_getD, List.getElem?_eq_getElem hj']; rfl
      rw [this, getElem!_pos _ j hj]
      simp [encStr]
    have hS := Try.slices_Sort_string g 0 c (xs.map (fun s => s.data.toList)) W hH hgs (by rw [hss]; omega)
    rw [hss] at hS
    refine hS.mono ?_
    rintro e w' ⟨rfl, n, os, rfl⟩
    have hds : ((xs.map (fun s => s.data.toList)).mergeSort fun x y => decide (x ≤ y)).toArray.size = (xs.map (fun s => s.data.toList)).toArray.size := by simp
    refine ⟨rfl, ⟨HB.os, HB.tape, HB.output, ?_, ?_⟩, ⟨hn, ?_, ?_⟩⟩
    · rw [Go.Sort.size_grow, Go.Sort.size_putRow]
      exact Nat.le_trans HB.size (Nat.le_add_right _ _)
    · intro k hk
      rw [Go.Sort.heap_grow_old _ _ (by rw [Go.Sort.size_putRow]; show k < W.heap.size; omega)]
      exact (mapBlock_other _ _ _ _ (by omega)).trans (HB.block k hk)
    · exact Nat.le_trans hl (by decide)
    · intro hpos
      refine ⟨⟨g, 0, none⟩, rfl, ?_⟩
      intro j p hp
      refine ⟨[.string p], rfl, rfl, ?_⟩
      intro i u hu
      have hi0 : i = 0 := by
        have := (List.getElem?_eq_some_iff.1 hu).1
        simpa using this
      subst hi0
      obtain rfl : Value.string p = u := by simpa using hu
      have hjl : j < (sortB xs).length := (List.getElem?_eq_some_iff.1 hp).1
      have hj2 : j < ((xs.map (fun s => s.data.toList)).mergeSort fun x y => decide (x ≤ y)).toArray.size := by rw [hds]; simp; omega
      have hG := (Go.Sort.holds_grow encStr _ os g 0 _ (by rw [Go.Sort.size_putRow]; exact hgs) (Go.Sort.holds_putRow encStr (Go.Sort.ahead W n) g 0 _ _ (show Go.Sort.Holds encStr (Go.Sort.ahead W n) g 0 _ from hH) hds)) j hj2
      have h1 := hG.1
      rw [Nat.zero_add] at h1
      have hadd : (⟨g, 0, none⟩ : Addr).add (j * Kd.string.sz + 0) = ⟨g, j, none⟩ := by
        show (⟨g, 0, none⟩ : Addr).add (j * 1 + 0) = ⟨g, j, none⟩
        unfold Addr.add
        by_cases hz : j = 0 <;> simp [hz]
      rw [hadd, h1]
      congr 1
      unfold sortB at hp
      rw [List.getElem?_map] at hp
      obtain ⟨l, hl1, hl2⟩ := Option.map_eq_some_iff.1 hp
      rw [getElem!_pos _ j hj2]
      obtain ⟨hjx, hlx⟩ := List.getElem?_eq_some_iff.1 hl1
      rw [← hl2, ← hlx]
      simp [encStr]

theorem rises_sorted (A : Option Addr) (c : Nat) (xs : List ByteArray) (w : World) (hr : Kd.C Kd.string w A xs.length (sortB xs)) (hc : xs.length ≤ c) :
    Calls Try.prog 63 #[.slice A xs.length c, .func (.func 64) #[] #[]] w fun e w' => e = .returned (.bool (risesB (sortB xs))) ∧ Below w.heap.size w w' := by
  have := rises_string A c (sortB xs) w (by rw [sortB_len]; exact hr) (by rw [sortB_len]; exact hc)
  rw [sortB_len] at this
  refine this.mono ?_
  rintro e w' ⟨rfl, m, rfl⟩
  exact ⟨rfl, pw_below_drewN (Below.refl _ _) _⟩

def unlikeW.l0 : Nat → List ByteArray → List (S62) → Int → Int → Option (Bool)
  | 0, _, _, _, _ => none
  | k + 1, x3, x9, x10, x11 => if x11 < x10 then (if 0 ≤ x11 then (if x11 < (x9.length : Int) then (if x11 < (x3.length : Int) then (unlikeW.l0 k (x3.set (x11 : Int).toNat ((rd_T62 x9 x11).f0)) x9 x10 (wrap64 (x11 + 1))) else (none)) else (none)) else (none)) else (if x3.length ≤ 1000000 then some (risesB (sortB x3)) else none)
def unlikeW.f (k : Nat) (l0 : List (S62)) : Option (Bool) := if 0 ≤ (l0.length : Int) then (if ((l0.length : Int) : Int).toNat ≤ 17592186044416 then (unlikeW.l0 k (List.replicate ((l0.length : Int) : Int).toNat (⟨#[]⟩ : ByteArray)) l0 (l0.length : Int) 0) else (none)) else (none)
set_option maxHeartbeats 2000000 in
set_option maxRecDepth 100000 in
theorem unlikeW.calls (k : Nat) (A0 : Option Addr) (c0 : Nat) (l0 : List (S62)) (r : Bool) (w : World) (hr0 : Kd.C k62 w A0 l0.length l0) (hc0 : l0.length ≤ c0) (h : unlikeW.f k l0 = some r) :
    Calls Try.prog 69 #[.slice A0 l0.length c0] w fun e w' => e = .returned (.bool r) ∧ Below w.heap.size w w' := by
  have hu62 := Try.underlying62
  have HR0 := Aside0.mk hr0
  have HC0 := Aside0.mk hc0
  clear hr0 hc0
  have HB := Aside0.mk (Below.refl w.heap.size w)
  have H : (if 0 ≤ (l0.length : Int) then (if ((l0.length : Int) : Int).toNat ≤ 17592186044416 then (unlikeW.l0 k (List.replicate ((l0.length : Int) : Int).toNat (⟨#[]⟩ : ByteArray)) l0 (l0.length : Int) 0) else (none)) else (none)) = some r := h
  clear h
  by_cases c2 : 0 ≤ (l0.length : Int)
  · rw [if_pos c2] at H
    have c2b0 := eq_true c2
    have c2b1 : decide (0 ≤ (l0.length : Int)) = true := decide_eq_true c2
    clear c2
    by_cases c3 : ((l0.length : Int) : Int).toNat ≤ 17592186044416
    · rw [if_pos c3] at H
      have c3b0 := eq_true c3
      have c3b1 : decide (((l0.length : Int) : Int).toNat ≤ 17592186044416) = true := decide_eq_true c3
      clear c3
      obtain ⟨y101, hy101⟩ : ∃ y_ : List ByteArray, y_ = (List.replicate ((l0.length : Int) : Int).toNat (⟨#[]⟩ : ByteArray)) := ⟨_, rfl⟩
      replace H : (unlikeW.l0 k y101 l0 (l0.length : Int) 0) = some r := by first | (rw [hy101]; with_reducible exact H) | (have H2_ := (Option.bind_some _ _).symm.trans H; rw [hy101]; with_reducible exact H2_) | (have H2_ := (Option.bind_some _ _).symm.trans H; with_reducible exact H2_) | with_reducible exact H | (rw [hy101]; exact H) | exact H
      have Ny101 := Aside0.mk hy101
      clear hy101
      have H' := Aside0.mk H
      clear H
      go_enter Try.func69, Try.ntmps69
      go_wp2_with (first | ((with_reducible refine gate_dst (N := 8) rfl ?_); refine Kd.R_make Kd.string _ 9 rfl (N := 8) rfl 22 _ _ rfl (l0.length : Int) rfl rfl Try.underlying22 (.string ⟨#[]⟩) 16 info9 rfl (by decide) (by omega) (⟨#[]⟩ : ByteArray) (ok := fun _ => True) (okp := fun _ => True) rfl (fun _ hk => hk) trivial (of_decide_eq_true (by first | (with_reducible assumption) | assumption)) (Nat.le_trans (Nat.mul_le_mul_right _ (of_decide_eq_true (by first | (with_reducible assumption) | assumption) : (l0.length : Int).toNat ≤ 17592186044416)) (by omega)) (Below.refl _ _) (Nat.le_refl _) ?_; intro v102 w4 ho5 hb hg_ hnew_; clear hg_ hnew_; (first | rw [← Ny101.out] at ho5 | (simp only [Int.reduceToNat] at ho5; rw [← Ny101.out] at ho5)); have n0_ := Aside0.mk (Kd.R_lower ho5 (below_size (by repeat (first | (with_reducible first | exact HB.out | apply below_alloc | apply pw_below_drewN | apply below_drew1) | exact HB.out)))); have n1_ := Aside0.mk (below_step (by repeat (first | (with_reducible first | exact HB.out | apply below_alloc | apply pw_below_drewN | apply below_drew1) | exact HB.out)) hb); clear HB; have HO103 := n0_; have HB := n1_; clear n0_ n1_; clear hb ho5))
      go_loopg [11] k (fun kq v11 w' => ∃ (x3_1 : List ByteArray) (x11_1 : Int), v11 = .int .i64 x11_1 ∧ Aside0 (unlikeW.l0 kq x3_1 l0 (l0.length : Int) x11_1 = some r) ∧ Aside0 (kq ≤ k) ∧ Aside0 (Kd.R Kd.string 9 w' w.heap.size (fun _ => True) v102 x3_1) ∧ Aside0 (Below w.heap.size w w'))
      case atStart => exact ⟨(y101), (0), (by first | rfl | (simp; done) | (simp [*]; done)), H', ⟨Nat.le_refl _⟩, ⟨by (with_reducible repeat (first | apply Kd.R_alloc | apply Kd.R_drewN | apply Kd.R_drew)); exact HO103.out⟩, ⟨by repeat (first | (with_reducible first | exact HB.out | apply below_alloc | apply pw_below_drewN | apply below_drew1) | exact HB.out)⟩⟩
      case round =>
        clear H'
        try clear c2
        try clear c2b0
        try clear c2b1
        try clear p2
        try clear c3
        try clear c3b0
        try clear c3b1
        obtain ⟨x3_1, x11_1, rfl, HA, HK1, HO_3, HB⟩ := hrel
        cases gk with
        | zero => exact absurd HA.out (by simp [unlikeW.l0])
        | succ k1 =>
          have H := HA.out
          clear HA
          simp only [unlikeW.l0] at H
          by_cases c6 : x11_1 < (l0.length : Int)
          · rw [if_pos c6] at H
            have c6b0 : decide (x11_1 < (l0.length : Int)) = true := decide_eq_true c6
            clear c6
            by_cases c7 : 0 ≤ x11_1
            · rw [if_pos c7] at H
              have c7b0 : decide (0 ≤ x11_1) = true := decide_eq_true c7
              clear c7
              by_cases c8 : x11_1 < (l0.length : Int)
              · rw [if_pos c8] at H
                have c8b0 : decide (x11_1 < (l0.length : Int)) = true := decide_eq_true c8
                clear c8
                by_cases c9 : x11_1 < (x3_1.length : Int)
                · rw [if_pos c9] at H
                  have c9b0 : decide (x11_1 < (x3_1.length : Int)) = true := decide_eq_true c9
                  clear c9
                  obtain ⟨y106, hy106⟩ : ∃ y_ : List ByteArray, y_ = (x3_1.set (x11_1 : Int).toNat ((rd_T62 l0 x11_1).f0)) := ⟨_, rfl⟩
                  replace H : (unlikeW.l0 k1 y106 l0 (l0.length : Int) (wrap64 (x11_1 + 1))) = some r := by first | (rw [hy106]; with_reducible exact H) | (have H2_ := (Option.bind_some _ _).symm.trans H; rw [hy106]; with_reducible exact H2_) | (have H2_ := (Option.bind_some _ _).symm.trans H; with_reducible exact H2_) | with_reducible exact H | (rw [hy106]; exact H) | exact H
                  have Ny106 := Aside0.mk hy106
                  clear hy106
                  have H' := Aside0.mk H
                  clear H
                  have p104 : 0 ≤ (x11_1 : Int) := of_decide_eq_true (by first | (with_reducible assumption) | assumption)
                  have q104 : x11_1 < (l0.length : Int) := of_decide_eq_true (by first | (with_reducible assumption) | assumption)
                  obtain ⟨ad104, e104, hx104_0, hx104_1⟩ := at_T62 HR0.out x11_1 p104 q104
                  cases e104
                  replace hx104_0 := (HB.out.cell (World.block_lt_of_cell? w _ hx104_0)).trans hx104_0
                  replace hx104_1 := (HB.out.cell (World.block_lt_of_cell? w _ hx104_1)).trans hx104_1
                  replace p104 := eq_true p104
                  replace q104 := eq_true q104
                  go_wp2_with (first | ((with_reducible refine gate_dst (N := 5) rfl ?_); refine box_event ?hg (N := 5) ?hd (cs := #[.string (⟨#[]⟩ : ByteArray), .int .i64 0]) (t := 62) ?hr ?_; (case hd => rfl); (case hg => rfl); (case hr => first | (go_simp; done) | (go_simp; rfl)); intro gb105 hg w11 hbox hb; have n0_ := Aside0.mk (Kd.R_below (by (with_reducible repeat (first | apply Kd.R_alloc | apply Kd.R_drewN | apply Kd.R_drew)); exact HO_3.out) hb); have n1_ := Aside0.mk (below_step (by repeat (first | (with_reducible first | exact HB.out | apply below_alloc | apply pw_below_drewN | apply below_drew1) | exact HB.out)) hb); have n2_ := Aside0.mk (hbox); have n3_ := Aside0.mk ((by rw [hg]; exact (below_size (by repeat (first | (with_reducible first | exact HB.out | apply below_alloc | apply pw_below_drewN | apply below_drew1) | exact HB.out))) : w.heap.size ≤ gb105)); have n4_ := Aside0.mk ((by rw [hg]; exact (below_size (by repeat (first | (with_reducible first | exact HB.out | apply below_alloc | apply pw_below_drewN | apply below_drew1) | exact HB.out))) : w.heap.size ≤ gb105)); clear HO_3; clear HB; have HO_3 := n0_; have HB := n1_; have BK105 := n2_; have GW105 := n3_; have GE105 := n4_; clear n0_ n1_ n2_ n3_ n4_; clear hb hbox hg; have hcz12_0 : w11.cell? ⟨gb105, 0, none⟩ = some (.string (⟨#[]⟩ : ByteArray)) := (blk_cell BK105.out 0).trans rfl; have hcz12_1 : w11.cell? ⟨gb105, 1, none⟩ = some (.int .i64 0) := (blk_cell BK105.out 1).trans rfl; have hfz12_0 := blk_frozen BK105.out 0; have hfz12_1 := blk_frozen BK105.out 1) | ((with_reducible refine gate_store (t := 62) (p := 5) rfl ?_); refine store_event (t := 62) (p := 5) (v := ?vo_w13) (w1 := ((w11.setCell ⟨gb105, 0, none⟩ (.string ((rd_T62 l0 x11_1).f0))).setCell ⟨gb105, 1, none⟩ (.int .i64 ((rd_T62 l0 x11_1).f1)))) ?hg ?ho ?hn ?hr ?_; (case ho => rfl); (case hg => rfl); (case hn => rfl); (case hr => first | (go_simp; done) | (go_simp; rfl)); intro w13 hw; have n0_ : Aside0 (Kd.R Kd.string 9 w13 w.heap.size (fun _ => True) v102 x3_1) := ⟨(by rw [hw]; exact (by (with_reducible repeat (first | apply Kd.R_alloc | apply Kd.R_drewN | apply Kd.R_drew)); exact Kd.R_mono (Kd.R_far (p := ⟨gb105, 1, none⟩) (Kd.R_far (p := ⟨gb105, 0, none⟩) (Kd.R_types HO_3.out BK105.out (by decide)) (fun _ hk => hk.2) (.string ((rd_T62 l0 x11_1).f0))) (fun _ hk => hk.2) (.int .i64 ((rd_T62 l0 x11_1).f1))) (fun _ hk => trivial)))⟩; have n1_ : Aside0 (w13.heap[gb105]? = some (.cells #[.string ((rd_T62 l0 x11_1).f0), .int .i64 ((rd_T62 l0 x11_1).f1)] 62 (0, 0))) := ⟨(by rw [hw]; exact (by (with_reducible repeat (first | refine blk_drewN ?_ _ | refine blk_drew ?_ | refine blk_alloc ?_ _)); refine blk_put (cs := #[.string ((rd_T62 l0 x11_1).f0), .int .i64 0]) ?_ 1 _ rfl; (with_reducible repeat (first | refine blk_drewN ?_ _ | refine blk_drew ?_ | refine blk_alloc ?_ _)); refine blk_put (cs := #[.string (⟨#[]⟩ : ByteArray), .int .i64 0]) ?_ 0 _ rfl; (with_reducible repeat (first | refine blk_drewN ?_ _ | refine blk_drew ?_ | refine blk_alloc ?_ _)); exact BK105.out))⟩; have n2_ : Aside0 (Below w.heap.size w w13) := ⟨(by rw [hw]; exact (by repeat (first | (with_reducible first | exact HB.out | apply below_alloc | apply pw_below_drewN | apply below_drew1 | refine below_set ?_ GE105.out) | exact HB.out)))⟩; clear hw; clear HO_3; clear BK105; clear HB; have HO_3 := n0_; have BK105 := n1_; have HB := n2_; clear n0_ n1_ n2_; have hcz14_0 : w13.cell? ⟨gb105, 0, none⟩ = some (.string ((rd_T62 l0 x11_1).f0)) := (blk_cell BK105.out 0).trans rfl; have hcz14_1 : w13.cell? ⟨gb105, 1, none⟩ = some (.int .i64 ((rd_T62 l0 x11_1).f1)) := (blk_cell BK105.out 1).trans rfl; have hfz14_0 := blk_frozen BK105.out 0; have hfz14_1 := blk_frozen BK105.out 1; have p10 : 0 ≤ (x11_1 : Int) := of_decide_eq_true (by first | (with_reducible assumption) | assumption); have q10 : (x11_1 : Int) < ((x3_1.length : Int) : Int) := of_decide_eq_true (by first | (with_reducible assumption) | assumption); obtain ⟨go10, co10, eo10, gb10, gl10, cl10, HG10⟩ := Kd.R_form HO_3.out (by omega); (first | cases eo10 | (injection eo10 with ea_ en_ ec_; (first | subst ea_ | (injection ea_ with ea_; subst ea_)); subst ec_; clear en_)); have GB10 := Aside0.mk gb10; have GG10 := Aside0.mk HG10; clear gb10 gl10 HG10; obtain ⟨hx10_0, hf10_0⟩ := Kd.R_celln (⟨#[]⟩ : ByteArray) HO_3.out (x11_1 : Int) p10 q10; replace p10 := eq_true p10; replace q10 := eq_true q10; obtain ⟨hy15_, hz15_⟩ := Kd.R_celln (⟨#[]⟩ : ByteArray) HO_3.out (x11_1 : Int) (of_decide_eq_true (by first | (with_reducible assumption) | assumption)) (of_decide_eq_true (by first | (with_reducible assumption) | assumption)); have HP15 := Kd.R_putg HO_3.out (x11_1 : Int) ((rd_T62 l0 x11_1).f0)) | ((with_reducible refine gate_store (t := 9) (p := 20) rfl ?_); refine store_event (t := 9) (p := 20) (v := ?vo_w16) (w1 := (w13.setCell ⟨go10, (x11_1 : Int).toNat, none⟩ (.string ((rd_T62 l0 x11_1).f0)))) ?hg ?ho ?hn ?hr ?_; (case ho => rfl); (case hg => rfl); (case hn => rfl); (case hr => first | (go_simp; done) | (go_simp; rfl)); intro w16 hw; have hg : w13.grownBy w16 (some go10) := (by rw [hw]; exact HP15.2); have hp_ : Kd.R Kd.string 9 w16 w.heap.size (fun _ => True) (.slice (some ⟨go10, 0, none⟩) x3_1.length co10) y106 := (by rw [hw, Ny106.out]; exact HP15.1); clear HP15; have n0_ := Aside0.mk (hp_); have n1_ := Aside0.mk (blk_grown (g := gb105) (o := .cells #[.string ((rd_T62 l0 x11_1).f0), .int .i64 ((rd_T62 l0 x11_1).f1)] 62 (0, 0)) (by (with_reducible repeat (first | refine blk_drewN ?_ _ | refine blk_drew ?_ | refine blk_alloc ?_ _)); exact BK105.out) hg (Kd.R_ne HO_3.out BK105.out (by decide))); have n2_ := Aside0.mk ((by rw [hw]; exact below_set (HB.out) GB10.out : Below w.heap.size w w16)); clear HO_3; clear BK105; clear HB; have HO_3 := n0_; have BK105 := n1_; have HB := n2_; clear n0_ n1_ n2_; clear hg hw hp_))
                  go_roundg k1
                  case measure => have := HK1.out; omega
                  case rel => exact ⟨(y106), (wrap64 (x11_1 + 1)), (by first | rfl | (simp; done) | (simp [*]; done)), H', ⟨by have := HK1.out; omega⟩, ⟨by (with_reducible repeat (first | apply Kd.R_alloc | apply Kd.R_drewN | apply Kd.R_drew)); exact HO_3.out⟩, ⟨by repeat (first | (with_reducible first | exact HB.out | apply below_alloc | apply pw_below_drewN | apply below_drew1 | refine below_set ?_ GE105.out) | exact HB.out)⟩⟩
                · rw [if_neg c9] at H
                  exact absurd H (by simp)
              · rw [if_neg c8] at H
                exact absurd H (by simp)
            · rw [if_neg c7] at H
              exact absurd H (by simp)
          · rw [if_neg c6] at H
            have c6b0 : decide (x11_1 < (l0.length : Int)) = false := decide_eq_false c6
            clear c6
            by_cases c20 : x3_1.length ≤ 1000000
            case neg => rw [if_neg c20] at H; exact absurd H (by simp)
            rw [if_pos c20] at H
            obtain rfl := Option.some.inj H
            have HL20 := Aside0.mk c20
            clear c20
            obtain ⟨Ao19, co19, eo19⟩ := Kd.R_slice HO_3.out
            subst eo19
            have HC19 := Aside0.mk (Kd.R_reads' HO_3.out).2.1
            go_wp2_with (first
              | (go_at_call 55; (refine (sort_calls (w0 := w) (base := w.heap.size) (ok := fun _ => True) Ao19 co19 x3_1 _ ?hR ?hB HL20.out).mono ?_); (case hR => (with_reducible repeat (first | apply Kd.R_alloc | apply Kd.R_drewN | apply Kd.R_drew)); exact HO_3.out); (case hB => repeat (first | (with_reducible first | exact HB.out | apply below_alloc | apply pw_below_drewN | apply below_drew1) | exact HB.out)); rintro e w20 ⟨rfl, hb, hc⟩; have HB2 := Aside0.mk hb; have HC2 := Aside0.mk hc; clear hb hc)
              | (go_at_call 63; (refine (rises_sorted Ao19 co19 x3_1 _ ?hC HC19.out).mono ?_); (case hC => repeat (first | exact HC2.out | (with_reducible refine Kd.C_alloc ?_ _) | (with_reducible refine Kd.C_drewN ?_ _) | (with_reducible refine Kd.C_drew ?_))); rintro e w21 ⟨rfl, hd⟩; have HB3 := Aside0.mk (below_step (by repeat (first | (with_reducible first | exact HB2.out | apply below_alloc | apply pw_below_drewN | apply below_drew1) | exact HB2.out)) hd); clear hd))
            all_goals go_ret
            all_goals exact ⟨by first | rfl | (simp [errW_none, errW_some] <;> rfl) | (simp [*, errW_none, errW_some] <;> rfl), by repeat (first | (with_reducible first | exact HB3.out | apply below_alloc | apply pw_below_drewN | apply below_drew1) | exact HB3.out)⟩
    · rw [if_neg c3] at H
      exact absurd H (by simp)
  · rw [if_neg c2] at H
    exact absurd H (by simp)

/-- Plain: the names, one by one. -/
theorem unlike_loop (l : List S62) (hl : l.length ≤ 1000000) : ∀ (m k i : Nat), i + m = l.length →
    unlikeW.l0 (k + m + 1) ((l.take i).map (·.f0) ++ List.replicate m ⟨#[]⟩) l (l.length : Int) (i : Int) = some (risesB (sortB (l.map (·.f0)))) := by
  intro m
  induction m with
  | zero =>
    intro k i hi
    obtain rfl : i = l.length := by omega
    rw [unlikeW.l0, if_neg (by omega), if_pos (by simp; omega)]
    simp
  | succ m ih =>
    intro k i hi
    have hil : i < l.length := by omega
    rw [unlikeW.l0, if_pos (by omega), if_pos (by omega), if_pos (by omega), if_pos (by simp; omega), rd_Mark l i hil, show wrap64 ((i : Int) + 1) = ((i + 1 : Nat) : Int) by unfold wrap64; omega, Int.toNat_natCast]
    have hs : ((l.take i).map (·.f0) ++ List.replicate (m + 1) (⟨#[]⟩ : ByteArray)).set i (l[i].f0) = (l.take (i + 1)).map (·.f0) ++ List.replicate m (⟨#[]⟩ : ByteArray) := by
      have h1 : ((l.take i).map (fun x : S62 => x.f0)).length = i := by simp; omega
      rw [List.set_append_right _ _ (by omega), h1, Nat.sub_self, List.replicate_succ, List.set_cons_zero, List.take_succ_eq_append_getElem hil, List.map_append]
      simp
    rw [hs]
    exact ih k (i + 1) (by omega)

theorem rises_nodup : ∀ l : List ByteArray, l.Pairwise (fun a b => ltB b a = false) → (risesB l = true ↔ l.Nodup)
  | [], _ => by simp [risesB]
  | [a], _ => by simp [risesB]
  | a :: b :: r, h => by
    rw [List.pairwise_cons] at h
    have ih := rises_nodup (b :: r) h.2
    have e : risesB (a :: b :: r) = (ltB a b && risesB (b :: r)) := rfl
    rw [e, Bool.and_eq_true, ih, List.nodup_cons (a := a) (l := b :: r)]
    constructor
    · rintro ⟨h1, h2⟩
      refine ⟨fun hm => ?_, h2⟩
      rcases List.mem_cons.1 hm with rfl | hm
      · unfold ltB at h1
        rw [bytesLess_self] at h1
        cases h1
      · have := (List.pairwise_cons.1 h.2).1 a hm
        rw [h1] at this
        cases this
    · rintro ⟨h1, h2⟩
      refine ⟨?_, h2⟩
      cases hb : ltB a b with
      | true => rfl
      | false =>
        have hba := h.1 b List.mem_cons_self
        unfold ltB at hb hba
        have := bytesLess_total _ _ hb hba
        rw [Go.ByteArray.toList_eq, Go.ByteArray.toList_eq] at this
        have hab : a = b := by
          have h3 := Array.toList_inj.1 this
          cases a; cases b; simp_all
        exact absurd (hab ▸ List.mem_cons_self) h1

theorem sortB_perm (xs : List ByteArray) : (sortB xs).Perm xs := by
  unfold sortB
  have h := (List.mergeSort_perm (xs.map (fun s => s.data.toList)) (fun x y => decide (x ≤ y))).map (fun l => (⟨l.toArray⟩ : ByteArray))
  refine h.trans ?_
  rw [List.map_map]
  have : (fun l : List UInt8 => (⟨l.toArray⟩ : ByteArray)) ∘ (fun s : ByteArray => s.data.toList) = id := by
    funext s; cases s; simp
  rw [this, List.map_id]

theorem sortB_sorted (xs : List ByteArray) : (sortB xs).Pairwise (fun a b => ltB b a = false) := by
  unfold sortB
  rw [List.pairwise_map]
  have h := List.pairwise_mergeSort (le := fun x y : List UInt8 => decide (x ≤ y)) (fun a b c h1 h2 => by
    simp only [decide_eq_true_eq] at h1 h2 ⊢
    exact List.le_trans h1 h2) (fun a b => by
    simp only [Bool.or_eq_true, decide_eq_true_eq]
    exact List.le_total a b) (xs.map (fun s => s.data.toList))
  refine h.imp ?_
  intro a b hab
  unfold ltB
  rw [Go.ByteArray.toList_eq, Go.ByteArray.toList_eq, Go.Proofs.bytesLess_eq]
  simp only [decide_eq_true_eq] at hab
  exact decide_eq_false (fun hlt => hab hlt)

theorem rises_sortB (xs : List ByteArray) : risesB (sortB xs) = decide xs.Nodup := by
  have h := rises_nodup _ (sortB_sorted xs)
  rw [(sortB_perm xs).nodup_iff] at h
  by_cases hn : xs.Nodup
  · rw [decide_eq_true hn]; exact h.2 hn
  · rw [decide_eq_false hn]
    cases hr : risesB (sortB xs) with
    | false => rfl
    | true => exact absurd (h.1 hr) hn

def value_unlike.f (l0 : List (S62)) : Option Bool := if l0.length ≤ 1000000 then some (decide (l0.map (·.f0)).Nodup) else none
theorem value_unlike.calls (A0 : Option Addr) (c0 : Nat) (l0 : List (S62)) (r : Bool) (w : World) (hr0 : Kd.C k62 w A0 l0.length l0) (hc0 : l0.length ≤ c0) (h : value_unlike.f l0 = some r) :
    Calls Try.prog 69 #[.slice A0 l0.length c0] w fun e w' => e = .returned (.bool r) ∧ Below w.heap.size w w' := by
  unfold value_unlike.f at h
  by_cases hl : l0.length ≤ 1000000
  case neg => rw [if_neg hl] at h; cases h
  rw [if_pos hl] at h
  injection h with h
  subst h
  rw [← rises_sortB]
  refine unlikeW.calls (l0.length + 1) A0 c0 l0 _ w hr0 hc0 ?_
  unfold unlikeW.f
  rw [if_pos (by omega), if_pos (by omega), Int.toNat_natCast]
  have := unlike_loop l0 hl l0.length 0 0 (by omega)
  rw [Nat.zero_add] at this
  simpa using this
end Go.Proofs.Ytbbgiedfkklojaa.X
