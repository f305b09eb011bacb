-- Written by a program of the session (wip/xprint.py): the kit's printer, beside contracts of the session's own.
import Derived.Test.YtencimfeipglaaaDoorXx0
import Derived.Test.YtencimfeipglaaaDoorStrOrd
import Derived.Test.YtencimfeipglaaaDoorEAll
namespace Go.Proofs.YtencimfeipglaaaDoor.X
open Go.RowKit Go.Proofs.YtencimfeipglaaaDoorW.PrintWords Go.Proofs.YtencimfeipglaaaDoorW.PrintLast Go.Proofs.YtencimfeipglaaaDoorW.PrintMore
attribute [local go_sem] binOp_str_gtr binOp_str_leq binOp_str_geq max2_int min2_int max_two min_two max_three min_three max_four min_four   -- for this text's walks alone
set_option linter.unusedVariables false
set_option linter.unusedSimpArgs false

/-! ### tipstaffref17_other: function 38 -/
def tipstaffref17_other.f (a0 : ByteArray) : Option (ByteArray) := if a0.toList = ([97, 108, 108, 99, 111, 109, 109, 97, 110, 100, 115] : List UInt8) then (some (⟨#[43, 64, 97, 108, 108]⟩ : ByteArray)) else (if a0.toList = ([110, 111, 99, 111, 109, 109, 97, 110, 100, 115] : List UInt8) then (some (⟨#[45, 64, 97, 108, 108]⟩ : ByteArray)) else (if a0.toList = ([97, 108, 108, 107, 101, 121, 115] : List UInt8) then (some (⟨#[126, 42]⟩ : ByteArray)) else (if a0.toList = ([97, 108, 108, 99, 104, 97, 110, 110, 101, 108, 115] : List UInt8) then (some (⟨#[38, 42]⟩ : ByteArray)) else (some a0))))
set_option maxHeartbeats 8000000 in
set_option maxRecDepth 100000 in
theorem tipstaffref17_other.calls (a0 : ByteArray) (r : ByteArray) (w : World) (h : tipstaffref17_other.f a0 = some r) :
    Calls Tryd.prog 38 #[.string a0] w fun e w' => e = .returned (.string r) ∧ Drawn0 w w' := by
  have H : (if a0.toList = ([97, 108, 108, 99, 111, 109, 109, 97, 110, 100, 115] : List UInt8) then (some (⟨#[43, 64, 97, 108, 108]⟩ : ByteArray)) else (if a0.toList = ([110, 111, 99, 111, 109, 109, 97, 110, 100, 115] : List UInt8) then (some (⟨#[45, 64, 97, 108, 108]⟩ : ByteArray)) else (if a0.toList = ([97, 108, 108, 107, 101, 121, 115] : List UInt8) then (some (⟨#[126, 42]⟩ : ByteArray)) else (if a0.toList = ([97, 108, 108, 99, 104, 97, 110, 110, 101, 108, 115] : List UInt8) then (some (⟨#[38, 42]⟩ : ByteArray)) else (some a0))))) = some r := h
  clear h
  by_cases c2 : a0.toList = ([97, 108, 108, 99, 111, 109, 109, 97, 110, 100, 115] : List UInt8)
  · rw [if_pos c2] at H
    have c2b0 : (a0.toList == ([97, 108, 108, 99, 111, 109, 109, 97, 110, 100, 115] : List UInt8)) = true := beq_iff_eq.mpr c2
    have c2b1 : (a0.toList != ([97, 108, 108, 99, 111, 109, 109, 97, 110, 100, 115] : List UInt8)) = false := bne_eq_false_iff_eq.mpr c2
    clear c2
    obtain rfl := Option.some.inj H
    go_enter Tryd.func38, Tryd.ntmps38
    go_wp2
    all_goals go_ret
    all_goals exact ⟨by first | rfl | (simp; done) | (simp [*]; done), by repeat (first | exact Drawn0.refl _ | apply Drawn0.step)⟩
  · rw [if_neg c2] at H
    have c2b0 : (a0.toList == ([97, 108, 108, 99, 111, 109, 109, 97, 110, 100, 115] : List UInt8)) = false := beq_eq_false_iff_ne.mpr c2
    have c2b1 : (a0.toList != ([97, 108, 108, 99, 111, 109, 109, 97, 110, 100, 115] : List UInt8)) = true := bne_iff_ne.mpr c2
    by_cases c3 : a0.toList = ([110, 111, 99, 111, 109, 109, 97, 110, 100, 115] : List UInt8)
    · rw [if_pos c3] at H
      have c3b0 : (a0.toList == ([110, 111, 99, 111, 109, 109, 97, 110, 100, 115] : List UInt8)) = true := beq_iff_eq.mpr c3
      have c3b1 : (a0.toList != ([110, 111, 99, 111, 109, 109, 97, 110, 100, 115] : List UInt8)) = false := bne_eq_false_iff_eq.mpr c3
      clear c3
      obtain rfl := Option.some.inj H
      go_enter Tryd.func38, Tryd.ntmps38
      go_wp2
      all_goals go_ret
      all_goals exact ⟨by first | rfl | (simp; done) | (simp [*]; done), by repeat (first | exact Drawn0.refl _ | apply Drawn0.step)⟩
    · rw [if_neg c3] at H
      have c3b0 : (a0.toList == ([110, 111, 99, 111, 109, 109, 97, 110, 100, 115] : List UInt8)) = false := beq_eq_false_iff_ne.mpr c3
      have c3b1 : (a0.toList != ([110, 111, 99, 111, 109, 109, 97, 110, 100, 115] : List UInt8)) = true := bne_iff_ne.mpr c3
      by_cases c4 : a0.toList = ([97, 108, 108, 107, 101, 121, 115] : List UInt8)
      · rw [if_pos c4] at H
        have c4b0 : (a0.toList == ([97, 108, 108, 107, 101, 121, 115] : List UInt8)) = true := beq_iff_eq.mpr c4
        have c4b1 : (a0.toList != ([97, 108, 108, 107, 101, 121, 115] : List UInt8)) = false := bne_eq_false_iff_eq.mpr c4
        clear c4
        obtain rfl := Option.some.inj H
        go_enter Tryd.func38, Tryd.ntmps38
        go_wp2
        all_goals go_ret
        all_goals exact ⟨by first | rfl | (simp; done) | (simp [*]; done), by repeat (first | exact Drawn0.refl _ | apply Drawn0.step)⟩
      · rw [if_neg c4] at H
        have c4b0 : (a0.toList == ([97, 108, 108, 107, 101, 121, 115] : List UInt8)) = false := beq_eq_false_iff_ne.mpr c4
        have c4b1 : (a0.toList != ([97, 108, 108, 107, 101, 121, 115] : List UInt8)) = true := bne_iff_ne.mpr c4
        by_cases c5 : a0.toList = ([97, 108, 108, 99, 104, 97, 110, 110, 101, 108, 115] : List UInt8)
        · rw [if_pos c5] at H
          have c5b0 : (a0.toList == ([97, 108, 108, 99, 104, 97, 110, 110, 101, 108, 115] : List UInt8)) = true := beq_iff_eq.mpr c5
          have c5b1 : (a0.toList != ([97, 108, 108, 99, 104, 97, 110, 110, 101, 108, 115] : List UInt8)) = false := bne_eq_false_iff_eq.mpr c5
          clear c5
          obtain rfl := Option.some.inj H
          go_enter Tryd.func38, Tryd.ntmps38
          go_wp2
          all_goals go_ret
          all_goals exact ⟨by first | rfl | (simp; done) | (simp [*]; done), by repeat (first | exact Drawn0.refl _ | apply Drawn0.step)⟩
        · rw [if_neg c5] at H
          have c5b0 : (a0.toList == ([97, 108, 108, 99, 104, 97, 110, 110, 101, 108, 115] : List UInt8)) = false := beq_eq_false_iff_ne.mpr c5
          have c5b1 : (a0.toList != ([97, 108, 108, 99, 104, 97, 110, 110, 101, 108, 115] : List UInt8)) = true := bne_iff_ne.mpr c5
          obtain rfl := Option.some.inj H
          go_enter Tryd.func38, Tryd.ntmps38
          go_wp2
          all_goals go_ret
          all_goals exact ⟨by first | rfl | (simp; done) | (simp [*]; done), by repeat (first | exact Drawn0.refl _ | apply Drawn0.step)⟩

end Go.Proofs.YtencimfeipglaaaDoor.X

namespace Go.Proofs.YtencimfeipglaaaDoor.X
open Go.RowKit Go.Proofs.YtencimfeipglaaaDoorW.PrintWords Go.Proofs.YtencimfeipglaaaDoorW.PrintLast Go.Proofs.YtencimfeipglaaaDoorW.PrintMore
attribute [local go_sem] binOp_str_gtr binOp_str_leq binOp_str_geq max2_int min2_int max_two min_two max_three min_three max_four min_four   -- for this text's walks alone
set_option linter.unusedVariables false
set_option linter.unusedSimpArgs false

/-! ### tipstaffref17_plain: function 39 -/
def tipstaffref17_plain.l0 : Nat → ByteArray → List ByteArray → List Int → Int → Option (Int × ByteArray × Bool × Bool × Int × Bool)
  | 0, _, _, _, _ => none
  | k + 1, x0, x4, x5, x6 => if x6 < (x4.length : Int) then (if 0 ≤ x6 then (if (rdOf ByteArray.empty x4 x6).toList = x0.toList then (if x6 < (x5.length : Int) then (some (rd x5 x6, (⟨#[]⟩ : ByteArray), false, false, 0, true)) else (none)) else (tipstaffref17_plain.l0 k x0 x4 x5 (wrap64 (x6 + 1)))) else (none)) else (some (0, (⟨#[]⟩ : ByteArray), false, false, 0, false))
def tipstaffref17_plain.f (k : Nat) (a0 : ByteArray) : Option (Int × ByteArray × Bool × Bool × Int × Bool) := tipstaffref17_plain.l0 k a0 (([(⟨#[111, 110]⟩ : ByteArray), (⟨#[111, 102, 102]⟩ : ByteArray), (⟨#[110, 111, 112, 97, 115, 115]⟩ : ByteArray), (⟨#[114, 101, 115, 101, 116, 112, 97, 115, 115]⟩ : ByteArray), (⟨#[114, 101, 115, 101, 116, 107, 101, 121, 115]⟩ : ByteArray), (⟨#[114, 101, 115, 101, 116, 99, 104, 97, 110, 110, 101, 108, 115]⟩ : ByteArray), (⟨#[114, 101, 115, 101, 116]⟩ : ByteArray)] : List ByteArray)) (([1, 2, 3, 4, 11, 13, 14] : List Int)) 0
theorem tipstaffref17_plain.mono_l : ∀ k, (∀ y0 y1 y2 y3, LeO (tipstaffref17_plain.l0 k y0 y1 y2 y3) (tipstaffref17_plain.l0 (k + 1) y0 y1 y2 y3))
  | 0 => fun _ _ _ _ r h => by simp [tipstaffref17_plain.l0] at h
  | k + 1 => by
    have ih0 := tipstaffref17_plain.mono_l k
    · intro y0 y1 y2 y3
      unfold tipstaffref17_plain.l0
      repeat' first
      | (with_reducible exact ih0 _ _ _ _)
      | (with_reducible exact LeO.refl _)
      | (with_reducible exact LeO.none _)
      | (with_reducible refine LeO.ite ?_ ?_)
      | (with_reducible refine LeO.bind ?_ (fun _ => ?_))
      | exact ih0 _ _ _ _
      | exact LeO.none _
      | refine LeO.ite ?_ ?_
      | refine LeO.bind ?_ (fun _ => ?_)
theorem tipstaffref17_plain.mono : ∀ a0 k, LeO (tipstaffref17_plain.f k a0) (tipstaffref17_plain.f (k + 1) a0) := by
  intro a0 k
  have ih0 := tipstaffref17_plain.mono_l k
  unfold tipstaffref17_plain.f
  repeat' first
      | (with_reducible exact ih0 _ _ _ _)
      | (with_reducible exact LeO.refl _)
      | (with_reducible exact LeO.none _)
      | (with_reducible refine LeO.ite ?_ ?_)
      | (with_reducible refine LeO.bind ?_ (fun _ => ?_))
      | exact ih0 _ _ _ _
      | exact LeO.none _
      | refine LeO.ite ?_ ?_
      | refine LeO.bind ?_ (fun _ => ?_)
set_option maxHeartbeats 8000000 in
set_option maxRecDepth 100000 in
theorem tipstaffref17_plain.calls (k : Nat) (a0 : ByteArray) (r1 : Int) (r2 : ByteArray) (r3 : Bool) (r4 : Bool) (r5 : Int) (r6 : Bool) (w : World) (h : tipstaffref17_plain.f k a0 = some (r1, r2, r3, r4, r5, r6)) :
    Calls Tryd.prog 39 #[.string a0] w fun e w' => e = .returned (.tuple #[.agg #[.int .u8 r1, .string r2, .bool r3, .bool r4, .int .u64 r5], .bool r6]) ∧ Below w.heap.size w w' := by
  have hu25 := Tryd.underlying25
  have HB := Aside0.mk (Below.refl w.heap.size w)
  have H : (tipstaffref17_plain.l0 k a0 (([(⟨#[111, 110]⟩ : ByteArray), (⟨#[111, 102, 102]⟩ : ByteArray), (⟨#[110, 111, 112, 97, 115, 115]⟩ : ByteArray), (⟨#[114, 101, 115, 101, 116, 112, 97, 115, 115]⟩ : ByteArray), (⟨#[114, 101, 115, 101, 116, 107, 101, 121, 115]⟩ : ByteArray), (⟨#[114, 101, 115, 101, 116, 99, 104, 97, 110, 110, 101, 108, 115]⟩ : ByteArray), (⟨#[114, 101, 115, 101, 116]⟩ : ByteArray)] : List ByteArray)) (([1, 2, 3, 4, 11, 13, 14] : List Int)) 0) = some (r1, r2, r3, r4, r5, r6) := h
  clear h
  obtain ⟨y172, hy172⟩ : ∃ y_ : List ByteArray, y_ = (([(⟨#[111, 110]⟩ : ByteArray), (⟨#[111, 102, 102]⟩ : ByteArray), (⟨#[110, 111, 112, 97, 115, 115]⟩ : ByteArray), (⟨#[114, 101, 115, 101, 116, 112, 97, 115, 115]⟩ : ByteArray), (⟨#[114, 101, 115, 101, 116, 107, 101, 121, 115]⟩ : ByteArray), (⟨#[114, 101, 115, 101, 116, 99, 104, 97, 110, 110, 101, 108, 115]⟩ : ByteArray), (⟨#[114, 101, 115, 101, 116]⟩ : ByteArray)] : List ByteArray)) := ⟨_, rfl⟩
  replace H : (tipstaffref17_plain.l0 k a0 y172 (([1, 2, 3, 4, 11, 13, 14] : List Int)) 0) = some (r1, r2, r3, r4, r5, r6) := by first | (rw [hy172]; with_reducible exact H) | (have H2_ := (Option.bind_some _ _).symm.trans H; rw [hy172]; with_reducible exact H2_) | (have H2_ := (Option.bind_some _ _).symm.trans H; with_reducible exact H2_) | with_reducible exact H | (rw [hy172]; exact H) | exact H
  have Ny172 := Aside0.mk hy172
  clear hy172
  obtain ⟨y175, hy175⟩ : ∃ y_ : List Int, y_ = (([1, 2, 3, 4, 11, 13, 14] : List Int)) := ⟨_, rfl⟩
  replace H : (tipstaffref17_plain.l0 k a0 y172 y175 0) = some (r1, r2, r3, r4, r5, r6) := by first | (rw [hy175]; with_reducible exact H) | (have H2_ := (Option.bind_some _ _).symm.trans H; rw [hy175]; with_reducible exact H2_) | (have H2_ := (Option.bind_some _ _).symm.trans H; with_reducible exact H2_) | with_reducible exact H | (rw [hy175]; exact H) | exact H
  have Ny175 := Aside0.mk hy175
  clear hy175
  have H' := Aside0.mk H
  clear H
  go_enter Tryd.func39, Tryd.ntmps39
  go_wp2_with (first | ((with_reducible refine gate_dst (N := 2) rfl ?_); refine box_event ?hg (N := 2) ?hd (cs := #[.int .u8 0, .string (⟨#[]⟩ : ByteArray), .bool false, .bool false, .int .u64 0]) (t := 25) ?hr ?_; (case hd => rfl); (case hg => rfl); (case hr => first | (go_simp; done) | (go_simp; rfl)); intro gb171 hg w2 hbox hb; have n0_ := Aside0.mk (below_step (by repeat (first | (with_reducible first | exact HB.out | apply below_alloc | apply pw_below_drewN | apply below_drew1) | exact HB.out)) hb); have n1_ := Aside0.mk (hbox); have n2_ := Aside0.mk ((by rw [hg]; exact (below_size (by repeat (first | (with_reducible first | exact HB.out | apply below_alloc | apply pw_below_drewN | apply below_drew1) | exact HB.out))) : w.heap.size ≤ gb171)); have n3_ := Aside0.mk ((by rw [hg]; exact (below_size (by repeat (first | (with_reducible first | exact HB.out | apply below_alloc | apply pw_below_drewN | apply below_drew1) | exact HB.out))) : w.heap.size ≤ gb171)); clear HB; have HB := n0_; have BK171 := n1_; have GW171 := n2_; have GE171 := n3_; clear n0_ n1_ n2_ n3_; clear hb hbox hg) | ((with_reducible refine gate_dst (N := 7) rfl ?_); refine Kd.R_lit Kd.string _ 9 ?hg (N := 7) ?hd (xs := ([(⟨#[111, 110]⟩ : ByteArray), (⟨#[111, 102, 102]⟩ : ByteArray), (⟨#[110, 111, 112, 97, 115, 115]⟩ : ByteArray), (⟨#[114, 101, 115, 101, 116, 112, 97, 115, 115]⟩ : ByteArray), (⟨#[114, 101, 115, 101, 116, 107, 101, 121, 115]⟩ : ByteArray), (⟨#[114, 101, 115, 101, 116, 99, 104, 97, 110, 110, 101, 108, 115]⟩ : ByteArray), (⟨#[114, 101, 115, 101, 116]⟩ : ByteArray)] : List ByteArray)) (inner := [.string (⟨#[111, 110]⟩ : ByteArray), .string (⟨#[111, 102, 102]⟩ : ByteArray), .string (⟨#[110, 111, 112, 97, 115, 115]⟩ : ByteArray), .string (⟨#[114, 101, 115, 101, 116, 112, 97, 115, 115]⟩ : ByteArray), .string (⟨#[114, 101, 115, 101, 116, 107, 101, 121, 115]⟩ : ByteArray), .string (⟨#[114, 101, 115, 101, 116, 99, 104, 97, 110, 110, 101, 108, 115]⟩ : ByteArray), .string (⟨#[114, 101, 115, 101, 116]⟩ : ByteArray)]) (ok := fun _ => True) (okp := fun _ => True) ?hr ?hp (fun _ hk => hk) trivial (Below.refl _ _) (Nat.le_refl _) (by simp) ?_; (case hd => rfl); (case hg => rfl); (case hr => first | (go_simp; done) | (go_simp; rfl)); (case hp => exact (Reps.one (show Kd.M Kd.string _ _ _ (⟨#[111, 110]⟩ : ByteArray) [.string (⟨#[111, 110]⟩ : ByteArray)] from rfl) (Reps.one (show Kd.M Kd.string _ _ _ (⟨#[111, 102, 102]⟩ : ByteArray) [.string (⟨#[111, 102, 102]⟩ : ByteArray)] from rfl) (Reps.one (show Kd.M Kd.string _ _ _ (⟨#[110, 111, 112, 97, 115, 115]⟩ : ByteArray) [.string (⟨#[110, 111, 112, 97, 115, 115]⟩ : ByteArray)] from rfl) (Reps.one (show Kd.M Kd.string _ _ _ (⟨#[114, 101, 115, 101, 116, 112, 97, 115, 115]⟩ : ByteArray) [.string (⟨#[114, 101, 115, 101, 116, 112, 97, 115, 115]⟩ : ByteArray)] from rfl) (Reps.one (show Kd.M Kd.string _ _ _ (⟨#[114, 101, 115, 101, 116, 107, 101, 121, 115]⟩ : ByteArray) [.string (⟨#[114, 101, 115, 101, 116, 107, 101, 121, 115]⟩ : ByteArray)] from rfl) (Reps.one (show Kd.M Kd.string _ _ _ (⟨#[114, 101, 115, 101, 116, 99, 104, 97, 110, 110, 101, 108, 115]⟩ : ByteArray) [.string (⟨#[114, 101, 115, 101, 116, 99, 104, 97, 110, 110, 101, 108, 115]⟩ : ByteArray)] from rfl) (Reps.one (show Kd.M Kd.string _ _ _ (⟨#[114, 101, 115, 101, 116]⟩ : ByteArray) [.string (⟨#[114, 101, 115, 101, 116]⟩ : ByteArray)] from rfl) (Reps.none _ _))))))))); intro v173 w3 ho4 hb hg_ hnew_; clear hg_ hnew_; (first | rw [← Ny172.out] at ho4 | (simp only [Int.reduceToNat] at ho4; rw [← Ny172.out] at ho4)); have n0_ := Aside0.mk (Kd.R_lower ho4 (below_size (by repeat (first | (with_reducible first | exact HB.out | apply below_alloc | apply pw_below_drewN | apply below_drew1 | refine below_set ?_ GE171.out) | exact HB.out)))); have n1_ := Aside0.mk (blk_below (g := gb171) (o := .cells #[.int .u8 0, .string (⟨#[]⟩ : ByteArray), .bool false, .bool false, .int .u64 0] 25 (0, 0)) (by (with_reducible repeat (first | refine blk_drewN ?_ _ | refine blk_drew ?_ | refine blk_alloc ?_ _)); exact BK171.out) hb); have n2_ := Aside0.mk (below_step (by repeat (first | (with_reducible first | exact HB.out | apply below_alloc | apply pw_below_drewN | apply below_drew1 | refine below_set ?_ GE171.out) | exact HB.out)) hb); clear BK171; clear HB; have HO174 := n0_; have BK171 := n1_; have HB := n2_; clear n0_ n1_ n2_; clear hb ho4) | ((with_reducible refine gate_dst (N := 8) rfl ?_); refine Kd.R_lit (Kd.int .u8) _ 5 ?hg (N := 8) ?hd (xs := ([1, 2, 3, 4, 11, 13, 14] : List Int)) (inner := [.int .u8 1, .int .u8 2, .int .u8 3, .int .u8 4, .int .u8 11, .int .u8 13, .int .u8 14]) (ok := fun _ => True) (okp := fun _ => True) ?hr ?hp (fun _ hk => hk) trivial (Below.refl _ _) (Nat.le_refl _) (by simp) ?_; (case hd => rfl); (case hg => rfl); (case hr => first | (go_simp; done) | (go_simp; rfl)); (case hp => exact (Reps.one (show Kd.M (Kd.int .u8) _ _ _ 1 [.int .u8 1] from rfl) (Reps.one (show Kd.M (Kd.int .u8) _ _ _ 2 [.int .u8 2] from rfl) (Reps.one (show Kd.M (Kd.int .u8) _ _ _ 3 [.int .u8 3] from rfl) (Reps.one (show Kd.M (Kd.int .u8) _ _ _ 4 [.int .u8 4] from rfl) (Reps.one (show Kd.M (Kd.int .u8) _ _ _ 11 [.int .u8 11] from rfl) (Reps.one (show Kd.M (Kd.int .u8) _ _ _ 13 [.int .u8 13] from rfl) (Reps.one (show Kd.M (Kd.int .u8) _ _ _ 14 [.int .u8 14] from rfl) (Reps.none _ _))))))))); intro v176 w5 ho6 hb hg_ hnew_; clear hg_ hnew_; (first | rw [← Ny175.out] at ho6 | (simp only [Int.reduceToNat] at ho6; rw [← Ny175.out] at ho6)); have n0_ := Aside0.mk (Kd.R_below (by (with_reducible repeat (first | apply Kd.R_alloc | apply Kd.R_drewN | apply Kd.R_drew)); exact HO174.out) hb); have n1_ := Aside0.mk (Kd.R_lower ho6 (below_size (by repeat (first | (with_reducible first | exact HB.out | apply below_alloc | apply pw_below_drewN | apply below_drew1 | refine below_set ?_ GE171.out) | exact HB.out)))); have n2_ := Aside0.mk (blk_below (g := gb171) (o := .cells #[.int .u8 0, .string (⟨#[]⟩ : ByteArray), .bool false, .bool false, .int .u64 0] 25 (0, 0)) (by (with_reducible repeat (first | refine blk_drewN ?_ _ | refine blk_drew ?_ | refine blk_alloc ?_ _)); exact BK171.out) hb); have n3_ := Aside0.mk (below_step (by repeat (first | (with_reducible first | exact HB.out | apply below_alloc | apply pw_below_drewN | apply below_drew1 | refine below_set ?_ GE171.out) | exact HB.out)) hb); clear HO174; clear BK171; clear HB; have HO174 := n0_; have HO177 := n1_; have BK171 := n2_; have HB := n3_; clear n0_ n1_ n2_ n3_; clear hb ho6))
  go_loopg [6] k (fun kq v6 w' => ∃ (x6_1 : Int) (x172000_1 : Int) (x172001_1 : ByteArray) (x172002_1 : Bool) (x172003_1 : Bool) (x172004_1 : Int), v6 = .int .i64 x6_1 ∧ Aside0 (tipstaffref17_plain.l0 kq a0 y172 y175 x6_1 = some (r1, r2, r3, r4, r5, r6)) ∧ Aside0 (kq ≤ k) ∧ Aside0 (Kd.R Kd.string 9 w' w.heap.size (fun _ => True) v173 y172) ∧ Aside0 (Kd.R (Kd.int .u8) 5 w' w.heap.size (fun _ => True) v176 y175) ∧ Aside0 (w'.heap[gb171]? = some (.cells #[.int .u8 x172000_1, .string x172001_1, .bool x172002_1, .bool x172003_1, .int .u64 x172004_1] 25 (0, 0))) ∧ Aside0 (Below w.heap.size w w'))
  case atStart => exact ⟨(0), (0), ((⟨#[]⟩ : ByteArray)), (false), (false), (0), (by first | rfl | (simp; done) | (simp [*]; done)), H', ⟨Nat.le_refl _⟩, ⟨by (with_reducible repeat (first | apply Kd.R_alloc | apply Kd.R_drewN | apply Kd.R_drew)); exact HO174.out⟩, ⟨by (with_reducible repeat (first | apply Kd.R_alloc | apply Kd.R_drewN | apply Kd.R_drew)); exact HO177.out⟩, ⟨by (with_reducible repeat (first | refine blk_drewN ?_ _ | refine blk_drew ?_ | refine blk_alloc ?_ _)); exact BK171.out⟩, ⟨by repeat (first | (with_reducible first | exact HB.out | apply below_alloc | apply pw_below_drewN | apply below_drew1 | refine below_set ?_ GE171.out) | exact HB.out)⟩⟩
  case round =>
    clear H'
    try clear p2
    try clear c3
    obtain ⟨x6_1, x172000_1, x172001_1, x172002_1, x172003_1, x172004_1, rfl, HA, HK1, HO_4, HO_5, BK171, HB⟩ := hrel
    cases gk with
    | zero => exact absurd HA.out (by simp [tipstaffref17_plain.l0])
    | succ k1 =>
      have H := HA.out
      clear HA
      simp only [tipstaffref17_plain.l0] at H
      by_cases c7 : x6_1 < (y172.length : Int)
      · rw [if_pos c7] at H
        have c7b0 : decide (x6_1 < (y172.length : Int)) = true := decide_eq_true c7
        clear c7
        by_cases c8 : 0 ≤ x6_1
        · rw [if_pos c8] at H
          have c8b0 : decide (0 ≤ x6_1) = true := decide_eq_true c8
          clear c8
          by_cases c9 : (rdOf ByteArray.empty y172 x6_1).toList = a0.toList
          · rw [if_pos c9] at H
            have c9b0 : ((rdOf ByteArray.empty y172 x6_1).toList == a0.toList) = true := beq_iff_eq.mpr c9
            have c9b1 : ((rdOf ByteArray.empty y172 x6_1).toList != a0.toList) = false := bne_eq_false_iff_eq.mpr c9
            clear c9
            by_cases c10 : x6_1 < (y175.length : Int)
            · rw [if_pos c10] at H
              have c10b0 : decide (x6_1 < (y175.length : Int)) = true := decide_eq_true c10
              clear c10
              simp only [Option.some.injEq, Prod.mk.injEq] at H
              obtain ⟨rfl, rfl, rfl, rfl, rfl, rfl⟩ := H
              obtain ⟨Ao11, co11, eo11⟩ := Kd.R_slice HO_4.out
              subst eo11
              have p178 : 0 ≤ (x6_1 : Int) := of_decide_eq_true (by first | (with_reducible assumption) | assumption)
              have q178 : x6_1 < (y172.length : Int) := of_decide_eq_true (by first | (with_reducible assumption) | assumption)
              obtain ⟨ad178, e178, hx178_0⟩ := Kd.at_string (Kd.R_reads' HO_4.out).2.2 x6_1 p178 q178
              cases e178
              replace p178 := eq_true p178
              replace q178 := eq_true q178
              obtain ⟨Ao12, co12, eo12⟩ := Kd.R_slice HO_5.out
              subst eo12
              have p179 : 0 ≤ (x6_1 : Int) := of_decide_eq_true (by first | (with_reducible assumption) | assumption)
              have q179 : x6_1 < (y175.length : Int) := of_decide_eq_true (by first | (with_reducible assumption) | assumption)
              obtain ⟨ad179, e179, hx179_0⟩ := Kd.at_int (Kd.R_reads' HO_5.out).2.2 x6_1 p179 q179
              cases e179
              replace p179 := eq_true p179
              replace q179 := eq_true q179
              have hcz13_0 : wr.cell? ⟨gb171, 0, none⟩ = some (.int .u8 x172000_1) := (blk_cell BK171.out 0).trans rfl
              have hcz13_1 : wr.cell? ⟨gb171, 1, none⟩ = some (.string x172001_1) := (blk_cell BK171.out 1).trans rfl
              have hcz13_2 : wr.cell? ⟨gb171, 2, none⟩ = some (.bool x172002_1) := (blk_cell BK171.out 2).trans rfl
              have hcz13_3 : wr.cell? ⟨gb171, 3, none⟩ = some (.bool x172003_1) := (blk_cell BK171.out 3).trans rfl
              have hcz13_4 : wr.cell? ⟨gb171, 4, none⟩ = some (.int .u64 x172004_1) := (blk_cell BK171.out 4).trans rfl
              have hfz13_0 := blk_frozen BK171.out 0
              have hfz13_1 := blk_frozen BK171.out 1
              have hfz13_2 := blk_frozen BK171.out 2
              have hfz13_3 := blk_frozen BK171.out 3
              have hfz13_4 := blk_frozen BK171.out 4
              go_wp2
              refine bodyPost_ret (results_ct rfl _ _ gb171 25 #[.int .u8 (rd y175 x6_1), .string (⟨#[]⟩ : ByteArray), .bool false, .bool false, .int .u64 0] (0, 0) _ rfl (by (with_reducible repeat (first | refine blk_drewN ?_ _ | refine blk_drew ?_ | refine blk_alloc ?_ _)); refine blk_put (cs := #[.int .u8 (rd y175 x6_1), .string (⟨#[]⟩ : ByteArray), .bool false, .bool false, .int .u64 x172004_1]) ?_ 4 _ rfl; (with_reducible repeat (first | refine blk_drewN ?_ _ | refine blk_drew ?_ | refine blk_alloc ?_ _)); refine blk_put (cs := #[.int .u8 (rd y175 x6_1), .string (⟨#[]⟩ : ByteArray), .bool false, .bool x172003_1, .int .u64 x172004_1]) ?_ 3 _ rfl; (with_reducible repeat (first | refine blk_drewN ?_ _ | refine blk_drew ?_ | refine blk_alloc ?_ _)); refine blk_put (cs := #[.int .u8 (rd y175 x6_1), .string (⟨#[]⟩ : ByteArray), .bool x172002_1, .bool x172003_1, .int .u64 x172004_1]) ?_ 2 _ rfl; (with_reducible repeat (first | refine blk_drewN ?_ _ | refine blk_drew ?_ | refine blk_alloc ?_ _)); refine blk_put (cs := #[.int .u8 (rd y175 x6_1), .string x172001_1, .bool x172002_1, .bool x172003_1, .int .u64 x172004_1]) ?_ 1 _ rfl; (with_reducible repeat (first | refine blk_drewN ?_ _ | refine blk_drew ?_ | refine blk_alloc ?_ _)); refine blk_put (cs := #[.int .u8 x172000_1, .string x172001_1, .bool x172002_1, .bool x172003_1, .int .u64 x172004_1]) ?_ 0 _ rfl; (with_reducible repeat (first | refine blk_drewN ?_ _ | refine blk_drew ?_ | refine blk_alloc ?_ _)); exact BK171.out) Tryd.underlying25 rfl (by kernel_rfl)) rfl ?_
              all_goals exact ⟨by first | rfl | (simp [errW_none, errW_some] <;> rfl) | (simp [*, errW_none, errW_some] <;> rfl), by repeat (first | (with_reducible first | exact HB.out | apply below_alloc | apply pw_below_drewN | apply below_drew1 | refine below_set ?_ GE171.out) | exact HB.out)⟩
            · rw [if_neg c10] at H
              exact absurd H (by simp)
          · rw [if_neg c9] at H
            have c9b0 : ((rdOf ByteArray.empty y172 x6_1).toList == a0.toList) = false := beq_eq_false_iff_ne.mpr c9
            have c9b1 : ((rdOf ByteArray.empty y172 x6_1).toList != a0.toList) = true := bne_iff_ne.mpr c9
            have H' := Aside0.mk H
            clear H
            obtain ⟨Ao14, co14, eo14⟩ := Kd.R_slice HO_4.out
            subst eo14
            have p178 : 0 ≤ (x6_1 : Int) := of_decide_eq_true (by first | (with_reducible assumption) | assumption)
            have q178 : x6_1 < (y172.length : Int) := of_decide_eq_true (by first | (with_reducible assumption) | assumption)
            obtain ⟨ad178, e178, hx178_0⟩ := Kd.at_string (Kd.R_reads' HO_4.out).2.2 x6_1 p178 q178
            cases e178
            replace p178 := eq_true p178
            replace q178 := eq_true q178
            go_wp2
            go_roundg k1
            case measure => have := HK1.out; omega
            case rel => exact ⟨(wrap64 (x6_1 + 1)), (x172000_1), (x172001_1), (x172002_1), (x172003_1), (x172004_1), (by first | rfl | (simp; done) | (simp [*]; done)), H', ⟨by have := HK1.out; omega⟩, ⟨by (with_reducible repeat (first | apply Kd.R_alloc | apply Kd.R_drewN | apply Kd.R_drew)); exact HO_4.out⟩, ⟨by (with_reducible repeat (first | apply Kd.R_alloc | apply Kd.R_drewN | apply Kd.R_drew)); exact HO_5.out⟩, ⟨by (with_reducible repeat (first | refine blk_drewN ?_ _ | refine blk_drew ?_ | refine blk_alloc ?_ _)); exact BK171.out⟩, ⟨by repeat (first | (with_reducible first | exact HB.out | apply below_alloc | apply pw_below_drewN | apply below_drew1 | refine below_set ?_ GE171.out) | exact HB.out)⟩⟩
        · rw [if_neg c8] at H
          exact absurd H (by simp)
      · rw [if_neg c7] at H
        have c7b0 : decide (x6_1 < (y172.length : Int)) = false := decide_eq_false c7
        clear c7
        simp only [Option.some.injEq, Prod.mk.injEq] at H
        obtain ⟨rfl, rfl, rfl, rfl, rfl, rfl⟩ := H
        obtain ⟨Ao15, co15, eo15⟩ := Kd.R_slice HO_4.out
        subst eo15
        have hcz16_0 : wr.cell? ⟨gb171, 0, none⟩ = some (.int .u8 x172000_1) := (blk_cell BK171.out 0).trans rfl
        have hcz16_1 : wr.cell? ⟨gb171, 1, none⟩ = some (.string x172001_1) := (blk_cell BK171.out 1).trans rfl
        have hcz16_2 : wr.cell? ⟨gb171, 2, none⟩ = some (.bool x172002_1) := (blk_cell BK171.out 2).trans rfl
        have hcz16_3 : wr.cell? ⟨gb171, 3, none⟩ = some (.bool x172003_1) := (blk_cell BK171.out 3).trans rfl
        have hcz16_4 : wr.cell? ⟨gb171, 4, none⟩ = some (.int .u64 x172004_1) := (blk_cell BK171.out 4).trans rfl
        have hfz16_0 := blk_frozen BK171.out 0
        have hfz16_1 := blk_frozen BK171.out 1
        have hfz16_2 := blk_frozen BK171.out 2
        have hfz16_3 := blk_frozen BK171.out 3
        have hfz16_4 := blk_frozen BK171.out 4
        go_wp2
        refine bodyPost_ret (results_ct rfl _ _ gb171 25 #[.int .u8 0, .string (⟨#[]⟩ : ByteArray), .bool false, .bool false, .int .u64 0] (0, 0) _ rfl (by (with_reducible repeat (first | refine blk_drewN ?_ _ | refine blk_drew ?_ | refine blk_alloc ?_ _)); refine blk_put (cs := #[.int .u8 0, .string (⟨#[]⟩ : ByteArray), .bool false, .bool false, .int .u64 x172004_1]) ?_ 4 _ rfl; (with_reducible repeat (first | refine blk_drewN ?_ _ | refine blk_drew ?_ | refine blk_alloc ?_ _)); refine blk_put (cs := #[.int .u8 0, .string (⟨#[]⟩ : ByteArray), .bool false, .bool x172003_1, .int .u64 x172004_1]) ?_ 3 _ rfl; (with_reducible repeat (first | refine blk_drewN ?_ _ | refine blk_drew ?_ | refine blk_alloc ?_ _)); refine blk_put (cs := #[.int .u8 0, .string (⟨#[]⟩ : ByteArray), .bool x172002_1, .bool x172003_1, .int .u64 x172004_1]) ?_ 2 _ rfl; (with_reducible repeat (first | refine blk_drewN ?_ _ | refine blk_drew ?_ | refine blk_alloc ?_ _)); refine blk_put (cs := #[.int .u8 0, .string x172001_1, .bool x172002_1, .bool x172003_1, .int .u64 x172004_1]) ?_ 1 _ rfl; (with_reducible repeat (first | refine blk_drewN ?_ _ | refine blk_drew ?_ | refine blk_alloc ?_ _)); refine blk_put (cs := #[.int .u8 x172000_1, .string x172001_1, .bool x172002_1, .bool x172003_1, .int .u64 x172004_1]) ?_ 0 _ rfl; (with_reducible repeat (first | refine blk_drewN ?_ _ | refine blk_drew ?_ | refine blk_alloc ?_ _)); exact BK171.out) Tryd.underlying25 rfl (by kernel_rfl)) rfl ?_
        all_goals exact ⟨by first | rfl | (simp [errW_none, errW_some] <;> rfl) | (simp [*, errW_none, errW_some] <;> rfl), by repeat (first | (with_reducible first | exact HB.out | apply below_alloc | apply pw_below_drewN | apply below_drew1 | refine below_set ?_ GE171.out) | exact HB.out)⟩

end Go.Proofs.YtencimfeipglaaaDoor.X

namespace Go.Proofs.YtencimfeipglaaaDoor.X
open Go.RowKit Go.Proofs.YtencimfeipglaaaDoorW.PrintWords Go.Proofs.YtencimfeipglaaaDoorW.PrintLast Go.Proofs.YtencimfeipglaaaDoorW.PrintMore
attribute [local go_sem] binOp_str_gtr binOp_str_leq binOp_str_geq max2_int min2_int max_two min_two max_three min_three max_four min_four   -- for this text's walks alone
set_option linter.unusedVariables false
set_option linter.unusedSimpArgs false

/-! ### tipstaffref17_begins: function 40 -/
def tipstaffref17_begins.f (a0 : ByteArray) (a1 : ByteArray) : Option (ByteArray × Bool) := if (a0.size : Int) < (a1.size : Int) then (some ((⟨#[]⟩ : ByteArray), false)) else (if 0 ≤ (a1.size : Int) then (if (a1.size : Int) ≤ (a0.size : Int) then (if (a0.extract 0 ((a1.size : Int) : Int).toNat).toList = a1.toList then (some (a0.extract ((a1.size : Int) : Int).toNat a0.size, true)) else (some ((⟨#[]⟩ : ByteArray), false))) else (none)) else (none))
set_option maxHeartbeats 8000000 in
set_option maxRecDepth 100000 in
theorem tipstaffref17_begins.calls (a0 : ByteArray) (a1 : ByteArray) (r1 : ByteArray) (r2 : Bool) (w : World) (h : tipstaffref17_begins.f a0 a1 = some (r1, r2)) :
    Calls Tryd.prog 40 #[.string a0, .string a1] w fun e w' => e = .returned (.tuple #[.string r1, .bool r2]) ∧ Drawn0 w w' := by
  have H : (if (a0.size : Int) < (a1.size : Int) then (some ((⟨#[]⟩ : ByteArray), false)) else (if 0 ≤ (a1.size : Int) then (if (a1.size : Int) ≤ (a0.size : Int) then (if (a0.extract 0 ((a1.size : Int) : Int).toNat).toList = a1.toList then (some (a0.extract ((a1.size : Int) : Int).toNat a0.size, true)) else (some ((⟨#[]⟩ : ByteArray), false))) else (none)) else (none))) = some (r1, r2) := h
  clear h
  by_cases c3 : (a0.size : Int) < (a1.size : Int)
  · rw [if_pos c3] at H
    have c3b0 : decide ((a0.size : Int) < (a1.size : Int)) = true := decide_eq_true c3
    have c3b1 : decide (a0.size < a1.size) = true := decide_eq_true (Int.ofNat_lt.mp c3)
    clear c3
    simp only [Option.some.injEq, Prod.mk.injEq] at H
    obtain ⟨rfl, rfl⟩ := H
    go_enter Tryd.func40, Tryd.ntmps40
    go_wp2
    all_goals go_ret2
    all_goals exact ⟨by first | rfl | (simp; done) | (simp [*]; done), by repeat (first | exact Drawn0.refl _ | apply Drawn0.step)⟩
  · rw [if_neg c3] at H
    have c3b0 : decide ((a0.size : Int) < (a1.size : Int)) = false := decide_eq_false c3
    have c3b1 : decide (a0.size < a1.size) = false := decide_eq_false (fun h => c3 (Int.ofNat_lt.mpr h))
    clear c3
    by_cases c4 : 0 ≤ (a1.size : Int)
    · rw [if_pos c4] at H
      have c4b0 := eq_true c4
      have c4b1 : decide (0 ≤ (a1.size : Int)) = true := decide_eq_true c4
      clear c4
      by_cases c5 : (a1.size : Int) ≤ (a0.size : Int)
      · rw [if_pos c5] at H
        have c5b0 := eq_true c5
        have c5b1 : decide ((a1.size : Int) ≤ (a0.size : Int)) = true := decide_eq_true c5
        try have c5bn : (a1.size ≤ a0.size) = True := eq_true (by have h_ := of_decide_eq_true c5b1; omega)
        clear c5
        by_cases c6 : (a0.extract 0 ((a1.size : Int) : Int).toNat).toList = a1.toList
        · rw [if_pos c6] at H
          have c6b0 : ((a0.extract 0 ((a1.size : Int) : Int).toNat).toList == a1.toList) = true := beq_iff_eq.mpr c6
          have c6b0t := c6b0; (try simp only [Int.toNat_natCast] at c6b0t)
          have c6b1 : ((a0.extract 0 ((a1.size : Int) : Int).toNat).toList != a1.toList) = false := bne_eq_false_iff_eq.mpr c6
          have c6b1t := c6b1; (try simp only [Int.toNat_natCast] at c6b1t)
          clear c6
          have c7b0 := eq_true (of_decide_eq_true (by first | (with_reducible assumption) | assumption) : 0 ≤ (a1.size : Int))
          have c8b0 := eq_true (of_decide_eq_true (by first | (with_reducible assumption) | assumption) : (a1.size : Int) ≤ (a0.size : Int))
          simp only [Option.some.injEq, Prod.mk.injEq] at H
          obtain ⟨rfl, rfl⟩ := H
          go_enter Tryd.func40, Tryd.ntmps40
          go_wp2
          all_goals go_ret2
          all_goals exact ⟨by first | rfl | (simp; done) | (simp [*]; done), by repeat (first | exact Drawn0.refl _ | apply Drawn0.step)⟩
        · rw [if_neg c6] at H
          have c6b0 : ((a0.extract 0 ((a1.size : Int) : Int).toNat).toList == a1.toList) = false := beq_eq_false_iff_ne.mpr c6
          have c6b0t := c6b0; (try simp only [Int.toNat_natCast] at c6b0t)
          have c6b1 : ((a0.extract 0 ((a1.size : Int) : Int).toNat).toList != a1.toList) = true := bne_iff_ne.mpr c6
          have c6b1t := c6b1; (try simp only [Int.toNat_natCast] at c6b1t)
          simp only [Option.some.injEq, Prod.mk.injEq] at H
          obtain ⟨rfl, rfl⟩ := H
          go_enter Tryd.func40, Tryd.ntmps40
          go_wp2
          all_goals go_ret2
          all_goals exact ⟨by first | rfl | (simp; done) | (simp [*]; done), by repeat (first | exact Drawn0.refl _ | apply Drawn0.step)⟩
      · rw [if_neg c5] at H
        exact absurd H (by simp)
    · rw [if_neg c4] at H
      exact absurd H (by simp)

end Go.Proofs.YtencimfeipglaaaDoor.X

namespace Go.Proofs.YtencimfeipglaaaDoor.X
open Go.RowKit Go.Proofs.YtencimfeipglaaaDoorW.PrintWords Go.Proofs.YtencimfeipglaaaDoorW.PrintLast Go.Proofs.YtencimfeipglaaaDoorW.PrintMore
attribute [local go_sem] binOp_str_gtr binOp_str_leq binOp_str_geq max2_int min2_int max_two min_two max_three min_three max_four min_four   -- for this text's walks alone
set_option linter.unusedVariables false
set_option linter.unusedSimpArgs false

/-! ### tipstaffref07_Cats: function 18 -/
def tipstaffref07_Cats.f  : Option (List ByteArray) := some (([(⟨#[114, 101, 97, 100]⟩ : ByteArray), (⟨#[119, 114, 105, 116, 101]⟩ : ByteArray), (⟨#[107, 101, 121, 115, 112, 97, 99, 101]⟩ : ByteArray), (⟨#[115, 116, 114, 105, 110, 103]⟩ : ByteArray), (⟨#[108, 105, 115, 116]⟩ : ByteArray), (⟨#[104, 97, 115, 104]⟩ : ByteArray), (⟨#[115, 101, 116]⟩ : ByteArray), (⟨#[115, 111, 114, 116, 101, 100, 115, 101, 116]⟩ : ByteArray), (⟨#[112, 117, 98, 115, 117, 98]⟩ : ByteArray), (⟨#[99, 111, 110, 110, 101, 99, 116, 105, 111, 110]⟩ : ByteArray), (⟨#[116, 114, 97, 110, 115, 97, 99, 116, 105, 111, 110]⟩ : ByteArray), (⟨#[97, 100, 109, 105, 110]⟩ : ByteArray)] : List ByteArray))
set_option maxHeartbeats 8000000 in
set_option maxRecDepth 100000 in
theorem tipstaffref07_Cats.calls  (r : List ByteArray) (w : World) (h : tipstaffref07_Cats.f  = some r) :
    Calls Tryd.prog 18 #[] w fun e w' => ∃ v0_ : Value, e = .returned (v0_) ∧ Kd.R Kd.string 9 w' w.heap.size (fun _ => True) v0_ r ∧ Below w.heap.size w w' := by
  have HB := Aside0.mk (Below.refl w.heap.size w)
  have H : (some (([(⟨#[114, 101, 97, 100]⟩ : ByteArray), (⟨#[119, 114, 105, 116, 101]⟩ : ByteArray), (⟨#[107, 101, 121, 115, 112, 97, 99, 101]⟩ : ByteArray), (⟨#[115, 116, 114, 105, 110, 103]⟩ : ByteArray), (⟨#[108, 105, 115, 116]⟩ : ByteArray), (⟨#[104, 97, 115, 104]⟩ : ByteArray), (⟨#[115, 101, 116]⟩ : ByteArray), (⟨#[115, 111, 114, 116, 101, 100, 115, 101, 116]⟩ : ByteArray), (⟨#[112, 117, 98, 115, 117, 98]⟩ : ByteArray), (⟨#[99, 111, 110, 110, 101, 99, 116, 105, 111, 110]⟩ : ByteArray), (⟨#[116, 114, 97, 110, 115, 97, 99, 116, 105, 111, 110]⟩ : ByteArray), (⟨#[97, 100, 109, 105, 110]⟩ : ByteArray)] : List ByteArray))) = some r := h
  clear h
  obtain ⟨y180, hy180⟩ : ∃ y_ : List ByteArray, y_ = (([(⟨#[114, 101, 97, 100]⟩ : ByteArray), (⟨#[119, 114, 105, 116, 101]⟩ : ByteArray), (⟨#[107, 101, 121, 115, 112, 97, 99, 101]⟩ : ByteArray), (⟨#[115, 116, 114, 105, 110, 103]⟩ : ByteArray), (⟨#[108, 105, 115, 116]⟩ : ByteArray), (⟨#[104, 97, 115, 104]⟩ : ByteArray), (⟨#[115, 101, 116]⟩ : ByteArray), (⟨#[115, 111, 114, 116, 101, 100, 115, 101, 116]⟩ : ByteArray), (⟨#[112, 117, 98, 115, 117, 98]⟩ : ByteArray), (⟨#[99, 111, 110, 110, 101, 99, 116, 105, 111, 110]⟩ : ByteArray), (⟨#[116, 114, 97, 110, 115, 97, 99, 116, 105, 111, 110]⟩ : ByteArray), (⟨#[97, 100, 109, 105, 110]⟩ : ByteArray)] : List ByteArray)) := ⟨_, rfl⟩
  replace H : (some y180) = some r := by first | (rw [hy180]; with_reducible exact H) | (have H2_ := (Option.bind_some _ _).symm.trans H; rw [hy180]; with_reducible exact H2_) | (have H2_ := (Option.bind_some _ _).symm.trans H; with_reducible exact H2_) | with_reducible exact H | (rw [hy180]; exact H) | exact H
  have Ny180 := Aside0.mk hy180
  clear hy180
  obtain rfl := Option.some.inj H
  go_enter Tryd.func18, Tryd.ntmps18
  go_wp2_with (first | ((with_reducible refine gate_dst (N := 1) rfl ?_); refine Kd.R_lit Kd.string _ 9 ?hg (N := 1) ?hd (xs := ([(⟨#[114, 101, 97, 100]⟩ : ByteArray), (⟨#[119, 114, 105, 116, 101]⟩ : ByteArray), (⟨#[107, 101, 121, 115, 112, 97, 99, 101]⟩ : ByteArray), (⟨#[115, 116, 114, 105, 110, 103]⟩ : ByteArray), (⟨#[108, 105, 115, 116]⟩ : ByteArray), (⟨#[104, 97, 115, 104]⟩ : ByteArray), (⟨#[115, 101, 116]⟩ : ByteArray), (⟨#[115, 111, 114, 116, 101, 100, 115, 101, 116]⟩ : ByteArray), (⟨#[112, 117, 98, 115, 117, 98]⟩ : ByteArray), (⟨#[99, 111, 110, 110, 101, 99, 116, 105, 111, 110]⟩ : ByteArray), (⟨#[116, 114, 97, 110, 115, 97, 99, 116, 105, 111, 110]⟩ : ByteArray), (⟨#[97, 100, 109, 105, 110]⟩ : ByteArray)] : List ByteArray)) (inner := [.string (⟨#[114, 101, 97, 100]⟩ : ByteArray), .string (⟨#[119, 114, 105, 116, 101]⟩ : ByteArray), .string (⟨#[107, 101, 121, 115, 112, 97, 99, 101]⟩ : ByteArray), .string (⟨#[115, 116, 114, 105, 110, 103]⟩ : ByteArray), .string (⟨#[108, 105, 115, 116]⟩ : ByteArray), .string (⟨#[104, 97, 115, 104]⟩ : ByteArray), .string (⟨#[115, 101, 116]⟩ : ByteArray), .string (⟨#[115, 111, 114, 116, 101, 100, 115, 101, 116]⟩ : ByteArray), .string (⟨#[112, 117, 98, 115, 117, 98]⟩ : ByteArray), .string (⟨#[99, 111, 110, 110, 101, 99, 116, 105, 111, 110]⟩ : ByteArray), .string (⟨#[116, 114, 97, 110, 115, 97, 99, 116, 105, 111, 110]⟩ : ByteArray), .string (⟨#[97, 100, 109, 105, 110]⟩ : ByteArray)]) (ok := fun _ => True) (okp := fun _ => True) ?hr ?hp (fun _ hk => hk) trivial (Below.refl _ _) (Nat.le_refl _) (by simp) ?_; (case hd => rfl); (case hg => rfl); (case hr => first | (go_simp; done) | (go_simp; rfl)); (case hp => exact (Reps.one (show Kd.M Kd.string _ _ _ (⟨#[114, 101, 97, 100]⟩ : ByteArray) [.string (⟨#[114, 101, 97, 100]⟩ : ByteArray)] from rfl) (Reps.one (show Kd.M Kd.string _ _ _ (⟨#[119, 114, 105, 116, 101]⟩ : ByteArray) [.string (⟨#[119, 114, 105, 116, 101]⟩ : ByteArray)] from rfl) (Reps.one (show Kd.M Kd.string _ _ _ (⟨#[107, 101, 121, 115, 112, 97, 99, 101]⟩ : ByteArray) [.string (⟨#[107, 101, 121, 115, 112, 97, 99, 101]⟩ : ByteArray)] from rfl) (Reps.one (show Kd.M Kd.string _ _ _ (⟨#[115, 116, 114, 105, 110, 103]⟩ : ByteArray) [.string (⟨#[115, 116, 114, 105, 110, 103]⟩ : ByteArray)] from rfl) (Reps.one (show Kd.M Kd.string _ _ _ (⟨#[108, 105, 115, 116]⟩ : ByteArray) [.string (⟨#[108, 105, 115, 116]⟩ : ByteArray)] from rfl) (Reps.one (show Kd.M Kd.string _ _ _ (⟨#[104, 97, 115, 104]⟩ : ByteArray) [.string (⟨#[104, 97, 115, 104]⟩ : ByteArray)] from rfl) (Reps.one (show Kd.M Kd.string _ _ _ (⟨#[115, 101, 116]⟩ : ByteArray) [.string (⟨#[115, 101, 116]⟩ : ByteArray)] from rfl) (Reps.one (show Kd.M Kd.string _ _ _ (⟨#[115, 111, 114, 116, 101, 100, 115, 101, 116]⟩ : ByteArray) [.string (⟨#[115, 111, 114, 116, 101, 100, 115, 101, 116]⟩ : ByteArray)] from rfl) (Reps.one (show Kd.M Kd.string _ _ _ (⟨#[112, 117, 98, 115, 117, 98]⟩ : ByteArray) [.string (⟨#[112, 117, 98, 115, 117, 98]⟩ : ByteArray)] from rfl) (Reps.one (show Kd.M Kd.string _ _ _ (⟨#[99, 111, 110, 110, 101, 99, 116, 105, 111, 110]⟩ : ByteArray) [.string (⟨#[99, 111, 110, 110, 101, 99, 116, 105, 111, 110]⟩ : ByteArray)] from rfl) (Reps.one (show Kd.M Kd.string _ _ _ (⟨#[116, 114, 97, 110, 115, 97, 99, 116, 105, 111, 110]⟩ : ByteArray) [.string (⟨#[116, 114, 97, 110, 115, 97, 99, 116, 105, 111, 110]⟩ : ByteArray)] from rfl) (Reps.one (show Kd.M Kd.string _ _ _ (⟨#[97, 100, 109, 105, 110]⟩ : ByteArray) [.string (⟨#[97, 100, 109, 105, 110]⟩ : ByteArray)] from rfl) (Reps.none _ _)))))))))))))); intro v181 w1 ho2 hb hg_ hnew_; clear hg_ hnew_; (first | rw [← Ny180.out] at ho2 | (simp only [Int.reduceToNat] at ho2; rw [← Ny180.out] at ho2)); have n0_ := Aside0.mk (Kd.R_lower ho2 (below_size (by repeat (first | (with_reducible first | exact HB.out | apply below_alloc | apply pw_below_drewN | apply below_drew1) | exact HB.out)))); have n1_ := Aside0.mk (below_step (by repeat (first | (with_reducible first | exact HB.out | apply below_alloc | apply pw_below_drewN | apply below_drew1) | exact HB.out)) hb); clear HB; have HO182 := n0_; have HB := n1_; clear n0_ n1_; clear hb ho2))
  all_goals go_ret
  exact ⟨_, by first | rfl | (simp [errW_none, errW_some] <;> rfl) | (simp [*, errW_none, errW_some] <;> rfl), by (with_reducible repeat (first | apply Kd.R_alloc | apply Kd.R_drewN | apply Kd.R_drew)); exact HO182.out, by repeat (first | (with_reducible first | exact HB.out | apply below_alloc | apply pw_below_drewN | apply below_drew1) | exact HB.out)⟩

end Go.Proofs.YtencimfeipglaaaDoor.X

namespace Go.Proofs.YtencimfeipglaaaDoor.X
open Go.RowKit Go.Proofs.YtencimfeipglaaaDoorW.PrintWords Go.Proofs.YtencimfeipglaaaDoorW.PrintLast Go.Proofs.YtencimfeipglaaaDoorW.PrintMore
attribute [local go_sem] binOp_str_gtr binOp_str_leq binOp_str_geq max2_int min2_int max_two min_two max_three min_three max_four min_four   -- for this text's walks alone
set_option linter.unusedVariables false
set_option linter.unusedSimpArgs false

/-! ### tipstaffref07_Cat: function 19 -/
mutual
def tipstaffref07_Cat.l0 : Nat → ByteArray → List (S31) → List ByteArray → Int → Option (Int × Bool)
  | 0, _, _, _, _ => none
  | k + 1, x0, x4, x5, x6 => if x6 ≤ (x5.length : Int) then (if x6 < (x5.length : Int) then (if 0 ≤ x6 then (if (rdOf ByteArray.empty x5 x6).toList = x0.toList then (if x6 = (x5.length : Int) then (tipstaffref07_Cat.j1 k x0 x4 x5 x6 (x0.toList != ([97, 108, 108] : List UInt8))) else (tipstaffref07_Cat.j1 k x0 x4 x5 x6 false)) else (tipstaffref07_Cat.j1 k x0 x4 x5 x6 true)) else (none)) else (if x6 = (x5.length : Int) then (tipstaffref07_Cat.j1 k x0 x4 x5 x6 (x0.toList != ([97, 108, 108] : List UInt8))) else (tipstaffref07_Cat.j1 k x0 x4 x5 x6 false))) else (some (0, false))
def tipstaffref07_Cat.j1 : Nat → ByteArray → List (S31) → List ByteArray → Int → Bool → Option (Int × Bool)
  | 0, _, _, _, _, _ => none
  | k + 1, x0, x4, x5, x6, x38 => if x38 = true then (tipstaffref07_Cat.l0 k x0 x4 x5 (wrap64 (x6 + 1))) else (tipstaffref07_Cat.l1 k x4 x5 x6 0 0)
def tipstaffref07_Cat.l1 : Nat → List (S31) → List ByteArray → Int → Int → Int → Option (Int × Bool)
  | 0, _, _, _, _, _ => none
  | k + 1, x4, x5, x6, x7, x8 => if x8 < (x4.length : Int) then (if x6 = (x5.length : Int) then (if 0 ≤ x8 then (tipstaffref07_Cat.l1 k x4 x5 x6 (IntKind.u64.wrap (x7 + (shl .u64 1 x8))) (wrap64 (x8 + 1))) else (none)) else (if 0 ≤ x8 then (if 0 ≤ x6 then (if (Int.tmod (shr .u16 ((rd_T31 x4 x8).f2) x6) 2) = 1 then (tipstaffref07_Cat.l1 k x4 x5 x6 (IntKind.u64.wrap (x7 + (shl .u64 1 x8))) (wrap64 (x8 + 1))) else (tipstaffref07_Cat.l1 k x4 x5 x6 x7 (wrap64 (x8 + 1)))) else (none)) else (none))) else (some (x7, true))
end
def tipstaffref07_Cat.f (k : Nat) (a0 : ByteArray) : Option (Int × Bool) := (tipstaffref07_All.f).bind fun t183 => ((tipstaffref07_Cats.f).bind fun t186 => (tipstaffref07_Cat.l0 k a0 t183 t186 0))
theorem tipstaffref07_Cat.mono_l : ∀ k, (∀ y0 y1 y2 y3, LeO (tipstaffref07_Cat.l0 k y0 y1 y2 y3) (tipstaffref07_Cat.l0 (k + 1) y0 y1 y2 y3)) ∧ (∀ y0 y1 y2 y3 y4, LeO (tipstaffref07_Cat.j1 k y0 y1 y2 y3 y4) (tipstaffref07_Cat.j1 (k + 1) y0 y1 y2 y3 y4)) ∧ (∀ y0 y1 y2 y3 y4, LeO (tipstaffref07_Cat.l1 k y0 y1 y2 y3 y4) (tipstaffref07_Cat.l1 (k + 1) y0 y1 y2 y3 y4))
  | 0 => ⟨fun _ _ _ _ r h => by simp [tipstaffref07_Cat.l0] at h, fun _ _ _ _ _ r h => by simp [tipstaffref07_Cat.j1] at h, fun _ _ _ _ _ r h => by simp [tipstaffref07_Cat.l1] at h⟩
  | k + 1 => by
    obtain ⟨ih0, ih1, ih2⟩ := tipstaffref07_Cat.mono_l k
    refine ⟨?_, ?_, ?_⟩
    · intro y0 y1 y2 y3
      unfold tipstaffref07_Cat.l0
      repeat' first
      | (with_reducible exact ih0 _ _ _ _)
      | (with_reducible exact ih1 _ _ _ _ _)
      | (with_reducible exact ih2 _ _ _ _ _)
      | (with_reducible exact LeO.refl _)
      | (with_reducible exact LeO.none _)
      | (with_reducible refine LeO.ite ?_ ?_)
      | (with_reducible refine LeO.bind ?_ (fun _ => ?_))
      | exact ih0 _ _ _ _
      | exact ih1 _ _ _ _ _
      | exact ih2 _ _ _ _ _
      | exact LeO.none _
      | refine LeO.ite ?_ ?_
      | refine LeO.bind ?_ (fun _ => ?_)
    · intro y0 y1 y2 y3 y4
      unfold tipstaffref07_Cat.j1
      repeat' first
      | (with_reducible exact ih0 _ _ _ _)
      | (with_reducible exact ih1 _ _ _ _ _)
      | (with_reducible exact ih2 _ _ _ _ _)
      | (with_reducible exact LeO.refl _)
      | (with_reducible exact LeO.none _)
      | (with_reducible refine LeO.ite ?_ ?_)
      | (with_reducible refine LeO.bind ?_ (fun _ => ?_))
      | exact ih0 _ _ _ _
      | exact ih1 _ _ _ _ _
      | exact ih2 _ _ _ _ _
      | exact LeO.none _
      | refine LeO.ite ?_ ?_
      | refine LeO.bind ?_ (fun _ => ?_)
    · intro y0 y1 y2 y3 y4
      unfold tipstaffref07_Cat.l1
      repeat' first
      | (with_reducible exact ih0 _ _ _ _)
      | (with_reducible exact ih1 _ _ _ _ _)
      | (with_reducible exact ih2 _ _ _ _ _)
      | (with_reducible exact LeO.refl _)
      | (with_reducible exact LeO.none _)
      | (with_reducible refine LeO.ite ?_ ?_)
      | (with_reducible refine LeO.bind ?_ (fun _ => ?_))
      | exact ih0 _ _ _ _
      | exact ih1 _ _ _ _ _
      | exact ih2 _ _ _ _ _
      | exact LeO.none _
      | refine LeO.ite ?_ ?_
      | refine LeO.bind ?_ (fun _ => ?_)
theorem tipstaffref07_Cat.mono : ∀ a0 k, LeO (tipstaffref07_Cat.f k a0) (tipstaffref07_Cat.f (k + 1) a0) := by
  intro a0 k
  obtain ⟨ih0, ih1, ih2⟩ := tipstaffref07_Cat.mono_l k
  unfold tipstaffref07_Cat.f
  repeat' first
      | (with_reducible exact ih0 _ _ _ _)
      | (with_reducible exact ih1 _ _ _ _ _)
      | (with_reducible exact ih2 _ _ _ _ _)
      | (with_reducible exact LeO.refl _)
      | (with_reducible exact LeO.none _)
      | (with_reducible refine LeO.ite ?_ ?_)
      | (with_reducible refine LeO.bind ?_ (fun _ => ?_))
      | exact ih0 _ _ _ _
      | exact ih1 _ _ _ _ _
      | exact ih2 _ _ _ _ _
      | exact LeO.none _
      | refine LeO.ite ?_ ?_
      | refine LeO.bind ?_ (fun _ => ?_)
set_option maxHeartbeats 8000000 in
set_option maxRecDepth 100000 in
theorem tipstaffref07_Cat.calls (k : Nat) (a0 : ByteArray) (r1 : Int) (r2 : Bool) (w : World) (h : tipstaffref07_Cat.f k a0 = some (r1, r2)) :
    Calls Tryd.prog 19 #[.string a0] w fun e w' => e = .returned (.tuple #[.int .u64 r1, .bool r2]) ∧ Below w.heap.size w w' := by
  have HB := Aside0.mk (Below.refl w.heap.size w)
  have H : ((tipstaffref07_All.f).bind fun t183 => ((tipstaffref07_Cats.f).bind fun t186 => (tipstaffref07_Cat.l0 k a0 t183 t186 0))) = some (r1, r2) := h
  clear h
  replace H := Option.bind_eq_some_iff.mp H
  obtain ⟨t183, A20, H⟩ := H
  replace H : ((tipstaffref07_Cats.f).bind fun t186 => (tipstaffref07_Cat.l0 k a0 t183 t186 0)) = some (r1, r2) := H
  have A2 := Aside0.mk A20
  clear A20
  replace H := Option.bind_eq_some_iff.mp H
  obtain ⟨t186, A30, H⟩ := H
  replace H : (tipstaffref07_Cat.l0 k a0 t183 t186 0) = some (r1, r2) := H
  have A3 := Aside0.mk A30
  clear A30
  have H' := Aside0.mk H
  clear H
  go_enter Tryd.func19, Tryd.ntmps19
  go_wp2_with (first | ((with_reducible refine gate_callee (f := 43) rfl ?_); refine goesL_ (some 9) rfl rfl Tryd.func43 (by kernel_rfl) rfl #[] rfl (by (try simp only [List.map_toArray, List.map_cons, List.map_nil]); first | done | rfl | (simp only [List.length_drop, List.length_take]; rfl)) ?_; (with_reducible refine (tipstaffref07_All.calls  t183 _ A2.out).mono ?_); rintro e w4 ⟨v184, rfl, ho0, hb⟩; refine ⟨_, rfl, ?_⟩; have n0_ := Aside0.mk (Kd.R_lower ho0 (below_size (by repeat (first | (with_reducible first | exact HB.out | apply below_alloc | apply pw_below_drewN | apply below_drew1) | exact HB.out)))); have n1_ := Aside0.mk (below_step (by repeat (first | (with_reducible first | exact HB.out | apply below_alloc | apply pw_below_drewN | apply below_drew1) | exact HB.out)) hb); clear HB; have HO185 := n0_; have HB := n1_; clear n0_ n1_; (try clear hb); (try clear hb2); (try clear hk); (try clear hi); (try clear ho0)) | ((with_reducible refine gate_callee (f := 18) rfl ?_); refine goesL_ (some 10) rfl rfl Tryd.func18 (by kernel_rfl) rfl #[] rfl (by (try simp only [List.map_toArray, List.map_cons, List.map_nil]); first | done | rfl | (simp only [List.length_drop, List.length_take]; rfl)) ?_; (with_reducible refine (tipstaffref07_Cats.calls  t186 _ A3.out).mono ?_); rintro e w5 ⟨v187, rfl, ho0, hb⟩; refine ⟨_, rfl, ?_⟩; have n0_ := Aside0.mk (Kd.R_below (by (with_reducible repeat (first | apply Kd.R_alloc | apply Kd.R_drewN | apply Kd.R_drew)); exact HO185.out) hb); have n1_ := Aside0.mk (Kd.R_lower ho0 (below_size (by repeat (first | (with_reducible first | exact HB.out | apply below_alloc | apply pw_below_drewN | apply below_drew1) | exact HB.out)))); have n2_ := Aside0.mk (below_step (by repeat (first | (with_reducible first | exact HB.out | apply below_alloc | apply pw_below_drewN | apply below_drew1) | exact HB.out)) hb); clear HO185; clear HB; have HO185 := n0_; have HO188 := n1_; have HB := n2_; clear n0_ n1_ n2_; (try clear hb); (try clear hb2); (try clear hk); (try clear hi); (try clear ho0)))
  go_loopg [6] k (fun kq v6 w' => ∃ (x6_1 : Int), v6 = .int .i64 x6_1 ∧ Aside0 (tipstaffref07_Cat.l0 kq a0 t183 t186 x6_1 = some (r1, r2)) ∧ Aside0 (kq ≤ k) ∧ Aside0 (Kd.R k31 31 w' w.heap.size (fun _ => True) v184 t183) ∧ Aside0 (Kd.R Kd.string 9 w' w.heap.size (fun _ => True) v187 t186) ∧ Aside0 (Below w.heap.size w w'))
  case atStart => exact ⟨(0), (by first | rfl | (simp; done) | (simp [*]; done)), H', ⟨Nat.le_refl _⟩, ⟨by (with_reducible repeat (first | apply Kd.R_alloc | apply Kd.R_drewN | apply Kd.R_drew)); exact HO185.out⟩, ⟨by (with_reducible repeat (first | apply Kd.R_alloc | apply Kd.R_drewN | apply Kd.R_drew)); exact HO188.out⟩, ⟨by repeat (first | (with_reducible first | exact HB.out | apply below_alloc | apply pw_below_drewN | apply below_drew1) | exact HB.out)⟩⟩
  case round =>
    clear H'
    try clear c1
    try clear p2
    try clear c4
    obtain ⟨x6_1, rfl, HA, HK1, HO_4, HO_5, HB⟩ := hrel
    cases gk with
    | zero => exact absurd HA.out (by simp [tipstaffref07_Cat.l0])
    | succ k1 =>
      have H := HA.out
      clear HA
      simp only [tipstaffref07_Cat.l0] at H
      by_cases c6 : x6_1 ≤ (t186.length : Int)
      · rw [if_pos c6] at H
        have c6b0 : decide (x6_1 ≤ (t186.length : Int)) = true := decide_eq_true c6
        clear c6
        have HC7 := Aside0.mk H
        clear H
        obtain ⟨Ao8, co8, eo8⟩ := Kd.R_slice HO_5.out
        subst eo8
        go_upto_region 6 with (fail)
        go_cut [38] (fun v38 wc => ∃ (kq : Nat) (x38_6 : Bool), v38 = .bool x38_6 ∧ Aside0 (tipstaffref07_Cat.j1 kq a0 t183 t186 x6_1 x38_6 = some (r1, r2)) ∧ Aside0 (kq ≤ k1) ∧ Aside0 (Kd.R k31 31 wc w.heap.size (fun _ => True) v184 t183) ∧ Aside0 (Kd.R Kd.string 9 wc w.heap.size (fun _ => True) (.slice Ao8 t186.length co8) t186) ∧ Aside0 (Below w.heap.size w wc))
        case first =>
          have H := HC7.out
          clear HC7
          by_cases c9 : x6_1 < (t186.length : Int)
          · rw [if_pos c9] at H
            have c9b0 : decide (x6_1 < (t186.length : Int)) = true := decide_eq_true c9
            clear c9
            (first | rw [c9b0] | (simp only [i64_w, i32_w]; rw [c9b0]) | skip)
            by_cases c10 : 0 ≤ x6_1
            · rw [if_pos c10] at H
              have c10b0 : decide (0 ≤ x6_1) = true := decide_eq_true c10
              clear c10
              by_cases c11 : (rdOf ByteArray.empty t186 x6_1).toList = a0.toList
              · rw [if_pos c11] at H
                have c11b0 : ((rdOf ByteArray.empty t186 x6_1).toList == a0.toList) = true := beq_iff_eq.mpr c11
                have c11b1 : ((rdOf ByteArray.empty t186 x6_1).toList != a0.toList) = false := bne_eq_false_iff_eq.mpr c11
                clear c11
                by_cases c12 : x6_1 = (t186.length : Int)
                · rw [if_pos c12] at H
                  have c12b0 : (x6_1 == (t186.length : Int)) = true := beq_iff_eq.mpr c12
                  have c12b1 : (x6_1 != (t186.length : Int)) = false := bne_eq_false_iff_eq.mpr c12
                  clear c12
                  have H' := Aside0.mk H
                  clear H
                  have p189 : 0 ≤ (x6_1 : Int) := of_decide_eq_true (by first | (with_reducible assumption) | assumption)
                  have q189 : x6_1 < (t186.length : Int) := of_decide_eq_true (by first | (with_reducible assumption) | assumption)
                  obtain ⟨ad189, e189, hx189_0⟩ := Kd.at_string (Kd.R_reads' HO_5.out).2.2 x6_1 p189 q189
                  cases e189
                  replace p189 := eq_true p189
                  replace q189 := eq_true q189
                  go_wp2
                  go_meet
                  case rel => exact ⟨_, ((a0.toList != ([97, 108, 108] : List UInt8))), (by first | rfl | (simp; done) | (simp [*]; done)), H', ⟨by have := HK1.out; first | omega | exact Nat.le_refl _⟩, ⟨by (with_reducible repeat (first | apply Kd.R_alloc | apply Kd.R_drewN | apply Kd.R_drew)); exact HO_4.out⟩, ⟨by (with_reducible repeat (first | apply Kd.R_alloc | apply Kd.R_drewN | apply Kd.R_drew)); exact HO_5.out⟩, ⟨by repeat (first | (with_reducible first | exact HB.out | apply below_alloc | apply pw_below_drewN | apply below_drew1) | exact HB.out)⟩⟩
                · rw [if_neg c12] at H
                  have c12b0 : (x6_1 == (t186.length : Int)) = false := beq_eq_false_iff_ne.mpr c12
                  have c12b1 : (x6_1 != (t186.length : Int)) = true := bne_iff_ne.mpr c12
                  have H' := Aside0.mk H
                  clear H
                  have p189 : 0 ≤ (x6_1 : Int) := of_decide_eq_true (by first | (with_reducible assumption) | assumption)
                  have q189 : x6_1 < (t186.length : Int) := of_decide_eq_true (by first | (with_reducible assumption) | assumption)
                  obtain ⟨ad189, e189, hx189_0⟩ := Kd.at_string (Kd.R_reads' HO_5.out).2.2 x6_1 p189 q189
                  cases e189
                  replace p189 := eq_true p189
                  replace q189 := eq_true q189
                  go_wp2
                  go_meet
                  case rel => exact ⟨_, (false), (by first | rfl | (simp; done) | (simp [*]; done)), H', ⟨by have := HK1.out; first | omega | exact Nat.le_refl _⟩, ⟨by (with_reducible repeat (first | apply Kd.R_alloc | apply Kd.R_drewN | apply Kd.R_drew)); exact HO_4.out⟩, ⟨by (with_reducible repeat (first | apply Kd.R_alloc | apply Kd.R_drewN | apply Kd.R_drew)); exact HO_5.out⟩, ⟨by repeat (first | (with_reducible first | exact HB.out | apply below_alloc | apply pw_below_drewN | apply below_drew1) | exact HB.out)⟩⟩
              · rw [if_neg c11] at H
                have c11b0 : ((rdOf ByteArray.empty t186 x6_1).toList == a0.toList) = false := beq_eq_false_iff_ne.mpr c11
                have c11b1 : ((rdOf ByteArray.empty t186 x6_1).toList != a0.toList) = true := bne_iff_ne.mpr c11
                have H' := Aside0.mk H
                clear H
                have p189 : 0 ≤ (x6_1 : Int) := of_decide_eq_true (by first | (with_reducible assumption) | assumption)
                have q189 : x6_1 < (t186.length : Int) := of_decide_eq_true (by first | (with_reducible assumption) | assumption)
                obtain ⟨ad189, e189, hx189_0⟩ := Kd.at_string (Kd.R_reads' HO_5.out).2.2 x6_1 p189 q189
                cases e189
                replace p189 := eq_true p189
                replace q189 := eq_true q189
                go_wp2
                go_meet
                case rel => exact ⟨_, (true), (by first | rfl | (simp; done) | (simp [*]; done)), H', ⟨by have := HK1.out; first | omega | exact Nat.le_refl _⟩, ⟨by (with_reducible repeat (first | apply Kd.R_alloc | apply Kd.R_drewN | apply Kd.R_drew)); exact HO_4.out⟩, ⟨by (with_reducible repeat (first | apply Kd.R_alloc | apply Kd.R_drewN | apply Kd.R_drew)); exact HO_5.out⟩, ⟨by repeat (first | (with_reducible first | exact HB.out | apply below_alloc | apply pw_below_drewN | apply below_drew1) | exact HB.out)⟩⟩
            · rw [if_neg c10] at H
              exact absurd H (by simp)
          · rw [if_neg c9] at H
            have c9b0 : decide (x6_1 < (t186.length : Int)) = false := decide_eq_false c9
            clear c9
            (first | rw [c9b0] | (simp only [i64_w, i32_w]; rw [c9b0]) | skip)
            by_cases c13 : x6_1 = (t186.length : Int)
            · rw [if_pos c13] at H
              have c13b0 : (x6_1 == (t186.length : Int)) = true := beq_iff_eq.mpr c13
              have c13b1 : (x6_1 != (t186.length : Int)) = false := bne_eq_false_iff_eq.mpr c13
              clear c13
              have H' := Aside0.mk H
              clear H
              go_wp2
              go_meet
              case rel => exact ⟨_, ((a0.toList != ([97, 108, 108] : List UInt8))), (by first | rfl | (simp; done) | (simp [*]; done)), H', ⟨by have := HK1.out; first | omega | exact Nat.le_refl _⟩, ⟨by (with_reducible repeat (first | apply Kd.R_alloc | apply Kd.R_drewN | apply Kd.R_drew)); exact HO_4.out⟩, ⟨by (with_reducible repeat (first | apply Kd.R_alloc | apply Kd.R_drewN | apply Kd.R_drew)); exact HO_5.out⟩, ⟨by repeat (first | (with_reducible first | exact HB.out | apply below_alloc | apply pw_below_drewN | apply below_drew1) | exact HB.out)⟩⟩
            · rw [if_neg c13] at H
              have c13b0 : (x6_1 == (t186.length : Int)) = false := beq_eq_false_iff_ne.mpr c13
              have c13b1 : (x6_1 != (t186.length : Int)) = true := bne_iff_ne.mpr c13
              have H' := Aside0.mk H
              clear H
              go_wp2
              go_meet
              case rel => exact ⟨_, (false), (by first | rfl | (simp; done) | (simp [*]; done)), H', ⟨by have := HK1.out; first | omega | exact Nat.le_refl _⟩, ⟨by (with_reducible repeat (first | apply Kd.R_alloc | apply Kd.R_drewN | apply Kd.R_drew)); exact HO_4.out⟩, ⟨by (with_reducible repeat (first | apply Kd.R_alloc | apply Kd.R_drewN | apply Kd.R_drew)); exact HO_5.out⟩, ⟨by repeat (first | (with_reducible first | exact HB.out | apply below_alloc | apply pw_below_drewN | apply below_drew1) | exact HB.out)⟩⟩
        case rest =>
          clear HC7
          try clear c1
          try clear p1
          try clear q1
          try clear hx1
          try clear p2
          try clear c4
          try clear c6
          try clear c6b0
          try clear c9
          try clear c9b0
          try clear c10
          try clear c10b0
          try clear c11
          try clear c11b0
          try clear c11b1
          try clear c12
          try clear c12b0
          try clear c12b1
          try clear c13
          try clear c13b0
          try clear c13b1
          try clear hx189_0
          try clear p189
          try clear p2
          try clear q189
          obtain ⟨kq, x38_6, rfl, HA, HJ6, HO_4, HO_5, HB⟩ := hcut
          cases kq with
          | zero => exact absurd HA.out (by simp [tipstaffref07_Cat.j1])
          | succ kj6 =>
            have H := HA.out
            clear HA
            simp only [tipstaffref07_Cat.j1] at H
            by_cases c14 : x38_6 = true
            · subst c14
              have H1 : (tipstaffref07_Cat.l0 kj6 a0 t183 t186 (wrap64 (x6_1 + 1))) = some (r1, r2) := by rw [if_pos rfl] at H; exact H
              clear H
              have H := H1
              clear H1
              have H' := Aside0.mk H
              clear H
              go_wp2
              go_roundg kj6
              case measure => have := HK1.out; have := HJ6.out; omega
              case rel => exact ⟨(wrap64 (x6_1 + 1)), (by first | rfl | (simp; done) | (simp [*]; done)), H', ⟨by have := HK1.out; have := HJ6.out; omega⟩, ⟨by (with_reducible repeat (first | apply Kd.R_alloc | apply Kd.R_drewN | apply Kd.R_drew)); exact HO_4.out⟩, ⟨by (with_reducible repeat (first | apply Kd.R_alloc | apply Kd.R_drewN | apply Kd.R_drew)); exact HO_5.out⟩, ⟨by repeat (first | (with_reducible first | exact HB.out | apply below_alloc | apply pw_below_drewN | apply below_drew1) | exact HB.out)⟩⟩
            · replace c14 := Bool.eq_false_iff.mpr c14
              subst c14
              have H1 : (tipstaffref07_Cat.l1 kj6 t183 t186 x6_1 0 0) = some (r1, r2) := by rw [if_neg (show ¬ (false = true) by decide)] at H; exact H
              clear H
              have H := H1
              clear H1
              have H' := Aside0.mk H
              clear H
              go_wp2
              go_loopg [7, 8] kj6 (fun kq v7 v8 w' => ∃ (x7_3 : Int) (x8_3 : Int), v7 = .int .u64 x7_3 ∧ v8 = .int .i64 x8_3 ∧ Aside0 (tipstaffref07_Cat.l1 kq t183 t186 x6_1 x7_3 x8_3 = some (r1, r2)) ∧ Aside0 (kq ≤ kj6) ∧ Aside0 (Kd.R k31 31 w' w.heap.size (fun _ => True) v184 t183) ∧ Aside0 (Kd.R Kd.string 9 w' w.heap.size (fun _ => True) (.slice Ao8 t186.length co8) t186) ∧ Aside0 (Below w.heap.size w w'))
              case atStart => exact ⟨(0), (0), (by first | rfl | (simp; done) | (simp [*]; done)), (by first | rfl | (simp; done) | (simp [*]; done)), H', ⟨Nat.le_refl _⟩, ⟨by (with_reducible repeat (first | apply Kd.R_alloc | apply Kd.R_drewN | apply Kd.R_drew)); exact HO_4.out⟩, ⟨by (with_reducible repeat (first | apply Kd.R_alloc | apply Kd.R_drewN | apply Kd.R_drew)); exact HO_5.out⟩, ⟨by repeat (first | (with_reducible first | exact HB.out | apply below_alloc | apply pw_below_drewN | apply below_drew1) | exact HB.out)⟩⟩
              case round =>
                clear H'
                try clear c1
                try clear p1
                try clear q1
                try clear hx1
                try clear p2
                try clear c4
                try clear c6
                try clear c6b0
                try clear p6
                try clear c9
                try clear c9b0
                try clear c10
                try clear c10b0
                try clear c11
                try clear c11b0
                try clear c11b1
                try clear c12
                try clear c12b0
                try clear c12b1
                try clear c13
                try clear c13b0
                try clear c13b1
                try clear c14
                try clear hx189_0
                try clear p1
                try clear p189
                try clear p2
                try clear q1
                try clear q189
                obtain ⟨x7_3, x8_3, rfl, rfl, HA, HK3, HO_4, HO_5, HB⟩ := hrel
                cases gk with
                | zero => exact absurd HA.out (by simp [tipstaffref07_Cat.l1])
                | succ k3 =>
                  have H := HA.out
                  clear HA
                  simp only [tipstaffref07_Cat.l1] at H
                  by_cases c15 : x8_3 < (t183.length : Int)
                  · rw [if_pos c15] at H
                    have c15b0 : decide (x8_3 < (t183.length : Int)) = true := decide_eq_true c15
                    clear c15
                    by_cases c16 : x6_1 = (t186.length : Int)
                    · rw [if_pos c16] at H
                      have c16b0 : (x6_1 == (t186.length : Int)) = true := beq_iff_eq.mpr c16
                      have c16b1 : (x6_1 != (t186.length : Int)) = false := bne_eq_false_iff_eq.mpr c16
                      clear c16
                      by_cases c17 : 0 ≤ x8_3
                      · rw [if_pos c17] at H
                        have c17b0 := eq_true c17
                        have c17b1 : decide (0 ≤ x8_3) = true := decide_eq_true c17
                        clear c17
                        obtain ⟨ji18, hji18⟩ : ∃ j_ : Int, (shl .u64 1 x8_3) = j_ := ⟨_, rfl⟩
                        replace H : (tipstaffref07_Cat.l1 k3 t183 t186 x6_1 (IntKind.u64.wrap (x7_3 + (ji18))) (wrap64 (x8_3 + 1))) = some (r1, r2) := by first | (rw [hji18] at H; exact H) | (simp only [hji18] at H ⊢; exact H)
                        have hji18_ : (IntKind.u64.wrap (1 * 2 ^ min x8_3.toNat 64)) = ji18 := hji18
                        have hji18z : x8_3 ≤ 64 → (IntKind.u64.wrap (1 * 2 ^ x8_3.toNat)) = ji18 := shl_small hji18
                        have hji18u : (IntKind.u64.wrap (2 ^ min x8_3.toNat 64)) = ji18 := by have h_ := hji18_; rw [Int.one_mul] at h_; exact h_
                        have hji18v : x8_3 ≤ 64 → (IntKind.u64.wrap (2 ^ x8_3.toNat)) = ji18 := fun hle_ => by have h_ := hji18z hle_; rw [Int.one_mul] at h_; exact h_
                        have H' := Aside0.mk H
                        clear H
                        obtain ⟨Ao19, co19, eo19⟩ := Kd.R_slice HO_4.out
                        subst eo19
                        go_wp2
                        go_roundg k3
                        case measure => have := HK1.out; have := HJ6.out; have := HK3.out; omega
                        case rel => exact ⟨(IntKind.u64.wrap (x7_3 + (ji18))), (wrap64 (x8_3 + 1)), (by first | rfl | (simp; done) | (simp only [← hji18] <;> (first | rfl | simp)) | (simp [*]; done)), (by first | rfl | (simp; done) | (simp [*]; done)), H', ⟨by have := HK1.out; have := HJ6.out; have := HK3.out; omega⟩, ⟨by (with_reducible repeat (first | apply Kd.R_alloc | apply Kd.R_drewN | apply Kd.R_drew)); exact HO_4.out⟩, ⟨by (with_reducible repeat (first | apply Kd.R_alloc | apply Kd.R_drewN | apply Kd.R_drew)); exact HO_5.out⟩, ⟨by repeat (first | (with_reducible first | exact HB.out | apply below_alloc | apply pw_below_drewN | apply below_drew1) | exact HB.out)⟩⟩
                      · rw [if_neg c17] at H
                        exact absurd H (by simp)
                    · rw [if_neg c16] at H
                      have c16b0 : (x6_1 == (t186.length : Int)) = false := beq_eq_false_iff_ne.mpr c16
                      have c16b1 : (x6_1 != (t186.length : Int)) = true := bne_iff_ne.mpr c16
                      by_cases c20 : 0 ≤ x8_3
                      · rw [if_pos c20] at H
                        have c20b0 : decide (0 ≤ x8_3) = true := decide_eq_true c20
                        clear c20
                        by_cases c21 : 0 ≤ x6_1
                        · rw [if_pos c21] at H
                          have c21b0 := eq_true c21
                          have c21b1 : decide (0 ≤ x6_1) = true := decide_eq_true c21
                          clear c21
                          obtain ⟨ji22, hji22⟩ : ∃ j_ : Int, (shr .u16 ((rd_T31 t183 x8_3).f2) x6_1) = j_ := ⟨_, rfl⟩
                          replace H : (if (Int.tmod (ji22) 2) = 1 then (tipstaffref07_Cat.l1 k3 t183 t186 x6_1 (IntKind.u64.wrap (x7_3 + (shl .u64 1 x8_3))) (wrap64 (x8_3 + 1))) else (tipstaffref07_Cat.l1 k3 t183 t186 x6_1 x7_3 (wrap64 (x8_3 + 1)))) = some (r1, r2) := by first | (rw [hji22] at H; exact H) | (simp only [hji22] at H ⊢; exact H)
                          have hji22_ : (((rd_T31 t183 x8_3).f2) / 2 ^ min x6_1.toNat 16) = ji22 := hji22
                          have hji22z : x6_1 ≤ 16 → (((rd_T31 t183 x8_3).f2) / 2 ^ x6_1.toNat) = ji22 := shr_small hji22
                          by_cases c23 : (Int.tmod (ji22) 2) = 1
                          · rw [if_pos c23] at H
                            have c23b0 : ((Int.tmod (ji22) 2) == 1) = true := beq_iff_eq.mpr c23
                            have c23b1 : ((Int.tmod (ji22) 2) != 1) = false := bne_eq_false_iff_eq.mpr c23
                            clear c23
                            have c24b0 := eq_true (of_decide_eq_true (by first | (with_reducible assumption) | assumption) : 0 ≤ x8_3)
                            obtain ⟨ji25, hji25⟩ : ∃ j_ : Int, (shl .u64 1 x8_3) = j_ := ⟨_, rfl⟩
                            replace H : (tipstaffref07_Cat.l1 k3 t183 t186 x6_1 (IntKind.u64.wrap (x7_3 + (ji25))) (wrap64 (x8_3 + 1))) = some (r1, r2) := by first | (rw [hji25] at H; exact H) | (simp only [hji25] at H ⊢; exact H)
                            have hji25_ : (IntKind.u64.wrap (1 * 2 ^ min x8_3.toNat 64)) = ji25 := hji25
                            have hji25z : x8_3 ≤ 64 → (IntKind.u64.wrap (1 * 2 ^ x8_3.toNat)) = ji25 := shl_small hji25
                            have hji25u : (IntKind.u64.wrap (2 ^ min x8_3.toNat 64)) = ji25 := by have h_ := hji25_; rw [Int.one_mul] at h_; exact h_
                            have hji25v : x8_3 ≤ 64 → (IntKind.u64.wrap (2 ^ x8_3.toNat)) = ji25 := fun hle_ => by have h_ := hji25z hle_; rw [Int.one_mul] at h_; exact h_
                            have H' := Aside0.mk H
                            clear H
                            obtain ⟨Ao26, co26, eo26⟩ := Kd.R_slice HO_4.out
                            subst eo26
                            have p190 : 0 ≤ (x8_3 : Int) := of_decide_eq_true (by first | (with_reducible assumption) | assumption)
                            have q190 : x8_3 < (t183.length : Int) := of_decide_eq_true (by first | (with_reducible assumption) | assumption)
                            obtain ⟨ad190, e190, hx190_0, hx190_1, hx190_2⟩ := at_T31 (Kd.R_reads' HO_4.out).2.2 x8_3 p190 q190
                            cases e190
                            replace p190 := eq_true p190
                            replace q190 := eq_true q190
                            go_wp2
                            go_roundg k3
                            case measure => have := HK1.out; have := HJ6.out; have := HK3.out; omega
                            case rel => exact ⟨(IntKind.u64.wrap (x7_3 + (ji25))), (wrap64 (x8_3 + 1)), (by first | rfl | (simp; done) | (simp only [← hji25] <;> (first | rfl | simp)) | (simp [*]; done)), (by first | rfl | (simp; done) | (simp [*]; done)), H', ⟨by have := HK1.out; have := HJ6.out; have := HK3.out; omega⟩, ⟨by (with_reducible repeat (first | apply Kd.R_alloc | apply Kd.R_drewN | apply Kd.R_drew)); exact HO_4.out⟩, ⟨by (with_reducible repeat (first | apply Kd.R_alloc | apply Kd.R_drewN | apply Kd.R_drew)); exact HO_5.out⟩, ⟨by repeat (first | (with_reducible first | exact HB.out | apply below_alloc | apply pw_below_drewN | apply below_drew1) | exact HB.out)⟩⟩
                          · rw [if_neg c23] at H
                            have c23b0 : ((Int.tmod (ji22) 2) == 1) = false := beq_eq_false_iff_ne.mpr c23
                            have c23b1 : ((Int.tmod (ji22) 2) != 1) = true := bne_iff_ne.mpr c23
                            have H' := Aside0.mk H
                            clear H
                            obtain ⟨Ao27, co27, eo27⟩ := Kd.R_slice HO_4.out
                            subst eo27
                            have p190 : 0 ≤ (x8_3 : Int) := of_decide_eq_true (by first | (with_reducible assumption) | assumption)
                            have q190 : x8_3 < (t183.length : Int) := of_decide_eq_true (by first | (with_reducible assumption) | assumption)
                            obtain ⟨ad190, e190, hx190_0, hx190_1, hx190_2⟩ := at_T31 (Kd.R_reads' HO_4.out).2.2 x8_3 p190 q190
                            cases e190
                            replace p190 := eq_true p190
                            replace q190 := eq_true q190
                            go_wp2
                            go_roundg k3
                            case measure => have := HK1.out; have := HJ6.out; have := HK3.out; omega
                            case rel => exact ⟨(x7_3), (wrap64 (x8_3 + 1)), (by first | rfl | (simp; done) | (simp [*]; done)), (by first | rfl | (simp; done) | (simp [*]; done)), H', ⟨by have := HK1.out; have := HJ6.out; have := HK3.out; omega⟩, ⟨by (with_reducible repeat (first | apply Kd.R_alloc | apply Kd.R_drewN | apply Kd.R_drew)); exact HO_4.out⟩, ⟨by (with_reducible repeat (first | apply Kd.R_alloc | apply Kd.R_drewN | apply Kd.R_drew)); exact HO_5.out⟩, ⟨by repeat (first | (with_reducible first | exact HB.out | apply below_alloc | apply pw_below_drewN | apply below_drew1) | exact HB.out)⟩⟩
                        · rw [if_neg c21] at H
                          exact absurd H (by simp)
                      · rw [if_neg c20] at H
                        exact absurd H (by simp)
                  · rw [if_neg c15] at H
                    have c15b0 : decide (x8_3 < (t183.length : Int)) = false := decide_eq_false c15
                    clear c15
                    simp only [Option.some.injEq, Prod.mk.injEq] at H
                    obtain ⟨rfl, rfl⟩ := H
                    obtain ⟨Ao28, co28, eo28⟩ := Kd.R_slice HO_4.out
                    subst eo28
                    go_wp2
                    all_goals go_ret2
                    all_goals exact ⟨by first | rfl | (simp [errW_none, errW_some] <;> rfl) | (simp [*, errW_none, errW_some] <;> rfl), by repeat (first | (with_reducible first | exact HB.out | apply below_alloc | apply pw_below_drewN | apply below_drew1) | exact HB.out)⟩
      · rw [if_neg c6] at H
        have c6b0 : decide (x6_1 ≤ (t186.length : Int)) = false := decide_eq_false c6
        clear c6
        simp only [Option.some.injEq, Prod.mk.injEq] at H
        obtain ⟨rfl, rfl⟩ := H
        obtain ⟨Ao29, co29, eo29⟩ := Kd.R_slice HO_5.out
        subst eo29
        go_wp2
        all_goals go_ret2
        all_goals exact ⟨by first | rfl | (simp [errW_none, errW_some] <;> rfl) | (simp [*, errW_none, errW_some] <;> rfl), by repeat (first | (with_reducible first | exact HB.out | apply below_alloc | apply pw_below_drewN | apply below_drew1) | exact HB.out)⟩

end Go.Proofs.YtencimfeipglaaaDoor.X

namespace Go.Proofs.YtencimfeipglaaaDoor.X
open Go.RowKit Go.Proofs.YtencimfeipglaaaDoorW.PrintWords Go.Proofs.YtencimfeipglaaaDoorW.PrintLast Go.Proofs.YtencimfeipglaaaDoorW.PrintMore
attribute [local go_sem] binOp_str_gtr binOp_str_leq binOp_str_geq max2_int min2_int max_two min_two max_three min_three max_four min_four   -- for this text's walks alone
set_option linter.unusedVariables false
set_option linter.unusedSimpArgs false

/-! ### tipstaffref01_Lower: function 61 -/
def tipstaffref01_Lower.l0 : Nat → ByteArray → List Int → Int → Option (ByteArray)
  | 0, _, _, _ => none
  | k + 1, x0, x3, x4 => if x4 < (x0.size : Int) then (if 0 ≤ x4 then (if (bt x0 x4) ≥ 65 then (if (bt x0 x4) ≤ 90 then (if x3.length < 140737488355328 then (tipstaffref01_Lower.l0 k x0 (x3 ++ [((bt x0 x4) + 32) % 256]) (wrap64 (x4 + 1))) else (none)) else (if x3.length < 140737488355328 then (tipstaffref01_Lower.l0 k x0 (x3 ++ [bt x0 x4]) (wrap64 (x4 + 1))) else (none))) else (if x3.length < 140737488355328 then (tipstaffref01_Lower.l0 k x0 (x3 ++ [bt x0 x4]) (wrap64 (x4 + 1))) else (none))) else (none)) else (some (strOfNums x3))
def tipstaffref01_Lower.f (k : Nat) (a0 : ByteArray) : Option (ByteArray) := tipstaffref01_Lower.l0 k a0 (([] : List Int)) 0
theorem tipstaffref01_Lower.mono_l : ∀ k, (∀ y0 y1 y2, LeO (tipstaffref01_Lower.l0 k y0 y1 y2) (tipstaffref01_Lower.l0 (k + 1) y0 y1 y2))
  | 0 => fun _ _ _ r h => by simp [tipstaffref01_Lower.l0] at h
  | k + 1 => by
    have ih0 := tipstaffref01_Lower.mono_l k
    · intro y0 y1 y2
      unfold tipstaffref01_Lower.l0
      repeat' first
      | (with_reducible exact ih0 _ _ _)
      | (with_reducible exact LeO.refl _)
      | (with_reducible exact LeO.none _)
      | (with_reducible refine LeO.ite ?_ ?_)
      | (with_reducible refine LeO.bind ?_ (fun _ => ?_))
      | exact ih0 _ _ _
      | exact LeO.none _
      | refine LeO.ite ?_ ?_
      | refine LeO.bind ?_ (fun _ => ?_)
theorem tipstaffref01_Lower.mono : ∀ a0 k, LeO (tipstaffref01_Lower.f k a0) (tipstaffref01_Lower.f (k + 1) a0) := by
  intro a0 k
  have ih0 := tipstaffref01_Lower.mono_l k
  unfold tipstaffref01_Lower.f
  repeat' first
      | (with_reducible exact ih0 _ _ _)
      | (with_reducible exact LeO.refl _)
      | (with_reducible exact LeO.none _)
      | (with_reducible refine LeO.ite ?_ ?_)
      | (with_reducible refine LeO.bind ?_ (fun _ => ?_))
      | exact ih0 _ _ _
      | exact LeO.none _
      | refine LeO.ite ?_ ?_
      | refine LeO.bind ?_ (fun _ => ?_)
set_option maxHeartbeats 8000000 in
set_option maxRecDepth 100000 in
theorem tipstaffref01_Lower.calls (k : Nat) (a0 : ByteArray) (r : ByteArray) (w : World) (h : tipstaffref01_Lower.f k a0 = some r) :
    Calls Tryd.prog 61 #[.string a0] w fun e w' => e = .returned (.string r) ∧ Below w.heap.size w w' := by
  have HB := Aside0.mk (Below.refl w.heap.size w)
  have H : (tipstaffref01_Lower.l0 k a0 (([] : List Int)) 0) = some r := h
  clear h
  obtain ⟨y191, hy191⟩ : ∃ y_ : List Int, y_ = (([] : List Int)) := ⟨_, rfl⟩
  replace H : (tipstaffref01_Lower.l0 k a0 y191 0) = some r := by first | (rw [hy191]; with_reducible exact H) | (have H2_ := (Option.bind_some _ _).symm.trans H; rw [hy191]; with_reducible exact H2_) | (have H2_ := (Option.bind_some _ _).symm.trans H; with_reducible exact H2_) | with_reducible exact H | (rw [hy191]; exact H) | exact H
  have Ny191 := Aside0.mk hy191
  clear hy191
  have H' := Aside0.mk H
  clear H
  go_enter Tryd.func61, Tryd.ntmps61
  go_wp2_with (first | ((with_reducible refine gate_dst (N := 6) rfl ?_); refine Kd.R_lit (Kd.int .u8) _ 5 ?hg (N := 6) ?hd (xs := ([] : List Int)) (inner := []) (ok := fun _ => True) (okp := fun _ => True) ?hr ?hp (fun _ hk => hk) trivial (Below.refl _ _) (Nat.le_refl _) (by simp) ?_; (case hd => rfl); (case hg => rfl); (case hr => first | (go_simp; done) | (go_simp; rfl)); (case hp => exact (Reps.none _ _)); intro v192 w2 ho3 hb hg_ hnew_; clear hg_ hnew_; (first | rw [← Ny191.out] at ho3 | (simp only [Int.reduceToNat] at ho3; rw [← Ny191.out] at ho3)); have n0_ := Aside0.mk (Kd.R_lower ho3 (below_size (by repeat (first | (with_reducible first | exact HB.out | apply below_alloc | apply pw_below_drewN | apply below_drew1) | exact HB.out)))); have n1_ := Aside0.mk (below_step (by repeat (first | (with_reducible first | exact HB.out | apply below_alloc | apply pw_below_drewN | apply below_drew1) | exact HB.out)) hb); clear HB; have HO193 := n0_; have HB := n1_; clear n0_ n1_; clear hb ho3))
  go_loopg [3, 4] k (fun kq v3 v4 w' => ∃ (x3_1 : List Int) (x4_1 : Int), v4 = .int .i64 x4_1 ∧ Aside0 (tipstaffref01_Lower.l0 kq a0 x3_1 x4_1 = some r) ∧ Aside0 (kq ≤ k) ∧ Aside0 (Kd.R (Kd.int .u8) 5 w' w.heap.size (fun _ => True) v3 x3_1) ∧ Aside0 (Below w.heap.size w w'))
  case atStart => exact ⟨(y191), (0), (by first | rfl | (simp; done) | (simp [*]; done)), H', ⟨Nat.le_refl _⟩, ⟨by (with_reducible repeat (first | apply Kd.R_alloc | apply Kd.R_drewN | apply Kd.R_drew)); exact HO193.out⟩, ⟨by repeat (first | (with_reducible first | exact HB.out | apply below_alloc | apply pw_below_drewN | apply below_drew1) | exact HB.out)⟩⟩
  case round =>
    clear H'
    try clear p2
    obtain ⟨x3_1, x4_1, rfl, HA, HK1, HO_3, HB⟩ := hrel
    cases gk with
    | zero => exact absurd HA.out (by simp [tipstaffref01_Lower.l0])
    | succ k1 =>
      have H := HA.out
      clear HA
      simp only [tipstaffref01_Lower.l0] at H
      by_cases c4 : x4_1 < (a0.size : Int)
      · rw [if_pos c4] at H
        have c4b0 : decide (x4_1 < (a0.size : Int)) = true := decide_eq_true c4
        clear c4
        by_cases c5 : 0 ≤ x4_1
        · rw [if_pos c5] at H
          have c5b0 : decide (0 ≤ x4_1) = true := decide_eq_true c5
          clear c5
          by_cases c7 : (bt a0 x4_1) ≥ 65
          · rw [if_pos c7] at H
            have c7b0 : decide (65 ≤ (bt a0 x4_1)) = true := decide_eq_true c7
            clear c7
            by_cases c8 : (bt a0 x4_1) ≤ 90
            · rw [if_pos c8] at H
              have c8b0 : decide ((bt a0 x4_1) ≤ 90) = true := decide_eq_true c8
              clear c8
              by_cases c9 : x3_1.length < 140737488355328
              · rw [if_pos c9] at H
                have LMc9 := Aside0.mk c9
                clear c9
                obtain ⟨y194, hy194⟩ : ∃ y_ : List Int, y_ = (x3_1 ++ [((bt a0 x4_1) + 32) % 256]) := ⟨_, rfl⟩
                replace H : (tipstaffref01_Lower.l0 k1 a0 y194 (wrap64 (x4_1 + 1))) = some r := by first | (rw [hy194]; with_reducible exact H) | (have H2_ := (Option.bind_some _ _).symm.trans H; rw [hy194]; with_reducible exact H2_) | (have H2_ := (Option.bind_some _ _).symm.trans H; with_reducible exact H2_) | with_reducible exact H | (rw [hy194]; exact H) | exact H
                have Ny194 := Aside0.mk hy194
                clear hy194
                have H' := Aside0.mk H
                clear H
                have p6 : 0 ≤ (x4_1 : Int) := of_decide_eq_true (by first | (with_reducible assumption) | assumption)
                have q6 : x4_1 < (a0.size : Int) := of_decide_eq_true (by first | (with_reducible assumption) | assumption)
                have hx6 := bt_at a0 x4_1
                replace p6 := eq_true p6
                replace q6 := eq_true q6
                go_wp2_with (first | ((with_reducible refine gate_builtin (b := .append) (xs := #[.tmp 24, .tmp 26]) rfl ?_); at_builtin; refine Kd.R_append (Kd.int .u8) (w0 := w) w.heap.size rfl (.tmp 24) (.tmp 26) 40 5 (.int .u8 0) 1 rfl Tryd.underlying40 info5 rfl (by decide) (by omega) u3 x3_1 (((bt a0 x4_1) + 32) % 256) [.int .u8 (((bt a0 x4_1) + 32) % 256)] (fun _ => True) (fun _ => False) rfl rfl ?aP (fun _ hk => hk.elim) ?aF ?aO ?aB ?aS ?aL ?_; (case aP => exact rfl); (case aB => exact (by repeat (first | (with_reducible first | exact HB.out | apply below_alloc | apply pw_below_drewN | apply below_drew1) | exact HB.out))); (case aF => exact (fun _ _ => trivial)); (case aO => exact (by (with_reducible repeat (first | apply Kd.R_alloc | apply Kd.R_drewN | apply Kd.R_drew)); exact HO_3.out)); (case aS => exact (below_size (by repeat (first | (with_reducible first | exact HB.out | apply below_alloc | apply pw_below_drewN | apply below_drew1) | exact HB.out)))); (case aL => have := LMc9.out; omega); intro v195 w10 ho hb hg hat; rw [← Ny194.out] at ho; have n0_ := Aside0.mk (hb); have n1_ := Aside0.mk (ho); clear HB; clear HO_3; have HB := n0_; have HO196 := n1_; clear n0_ n1_; clear ho hb hg hat))
                go_roundg k1
                case measure => have := HK1.out; omega
                case rel => exact ⟨(y194), (wrap64 (x4_1 + 1)), (by first | rfl | (simp; done) | (simp [*]; done)), H', ⟨by have := HK1.out; omega⟩, ⟨by (with_reducible repeat (first | apply Kd.R_alloc | apply Kd.R_drewN | apply Kd.R_drew)); exact HO196.out⟩, ⟨by repeat (first | (with_reducible first | exact HB.out | apply below_alloc | apply pw_below_drewN | apply below_drew1) | exact HB.out)⟩⟩
              · rw [if_neg c9] at H
                exact absurd H (by simp)
            · rw [if_neg c8] at H
              have c8b0 : decide ((bt a0 x4_1) ≤ 90) = false := decide_eq_false c8
              clear c8
              by_cases c11 : x3_1.length < 140737488355328
              · rw [if_pos c11] at H
                have LMc11 := Aside0.mk c11
                clear c11
                obtain ⟨y197, hy197⟩ : ∃ y_ : List Int, y_ = (x3_1 ++ [bt a0 x4_1]) := ⟨_, rfl⟩
                replace H : (tipstaffref01_Lower.l0 k1 a0 y197 (wrap64 (x4_1 + 1))) = some r := by first | (rw [hy197]; with_reducible exact H) | (have H2_ := (Option.bind_some _ _).symm.trans H; rw [hy197]; with_reducible exact H2_) | (have H2_ := (Option.bind_some _ _).symm.trans H; with_reducible exact H2_) | with_reducible exact H | (rw [hy197]; exact H) | exact H
                have Ny197 := Aside0.mk hy197
                clear hy197
                have H' := Aside0.mk H
                clear H
                have p6 : 0 ≤ (x4_1 : Int) := of_decide_eq_true (by first | (with_reducible assumption) | assumption)
                have q6 : x4_1 < (a0.size : Int) := of_decide_eq_true (by first | (with_reducible assumption) | assumption)
                have hx6 := bt_at a0 x4_1
                replace p6 := eq_true p6
                replace q6 := eq_true q6
                go_wp2_with (first | ((with_reducible refine gate_builtin (b := .append) (xs := #[.tmp 24, .tmp 26]) rfl ?_); at_builtin; refine Kd.R_append (Kd.int .u8) (w0 := w) w.heap.size rfl (.tmp 24) (.tmp 26) 40 5 (.int .u8 0) 1 rfl Tryd.underlying40 info5 rfl (by decide) (by omega) u3 x3_1 (bt a0 x4_1) [.int .u8 (bt a0 x4_1)] (fun _ => True) (fun _ => False) rfl rfl ?aP (fun _ hk => hk.elim) ?aF ?aO ?aB ?aS ?aL ?_; (case aP => exact rfl); (case aB => exact (by repeat (first | (with_reducible first | exact HB.out | apply below_alloc | apply pw_below_drewN | apply below_drew1) | exact HB.out))); (case aF => exact (fun _ _ => trivial)); (case aO => exact (by (with_reducible repeat (first | apply Kd.R_alloc | apply Kd.R_drewN | apply Kd.R_drew)); exact HO_3.out)); (case aS => exact (below_size (by repeat (first | (with_reducible first | exact HB.out | apply below_alloc | apply pw_below_drewN | apply below_drew1) | exact HB.out)))); (case aL => have := LMc11.out; omega); intro v198 w12 ho hb hg hat; rw [← Ny197.out] at ho; have n0_ := Aside0.mk (hb); have n1_ := Aside0.mk (ho); clear HB; clear HO_3; have HB := n0_; have HO199 := n1_; clear n0_ n1_; clear ho hb hg hat))
                go_roundg k1
                case measure => have := HK1.out; omega
                case rel => exact ⟨(y197), (wrap64 (x4_1 + 1)), (by first | rfl | (simp; done) | (simp [*]; done)), H', ⟨by have := HK1.out; omega⟩, ⟨by (with_reducible repeat (first | apply Kd.R_alloc | apply Kd.R_drewN | apply Kd.R_drew)); exact HO199.out⟩, ⟨by repeat (first | (with_reducible first | exact HB.out | apply below_alloc | apply pw_below_drewN | apply below_drew1) | exact HB.out)⟩⟩
              · rw [if_neg c11] at H
                exact absurd H (by simp)
          · rw [if_neg c7] at H
            have c7b0 : decide (65 ≤ (bt a0 x4_1)) = false := decide_eq_false c7
            clear c7
            by_cases c13 : x3_1.length < 140737488355328
            · rw [if_pos c13] at H
              have LMc13 := Aside0.mk c13
              clear c13
              obtain ⟨y200, hy200⟩ : ∃ y_ : List Int, y_ = (x3_1 ++ [bt a0 x4_1]) := ⟨_, rfl⟩
              replace H : (tipstaffref01_Lower.l0 k1 a0 y200 (wrap64 (x4_1 + 1))) = some r := by first | (rw [hy200]; with_reducible exact H) | (have H2_ := (Option.bind_some _ _).symm.trans H; rw [hy200]; with_reducible exact H2_) | (have H2_ := (Option.bind_some _ _).symm.trans H; with_reducible exact H2_) | with_reducible exact H | (rw [hy200]; exact H) | exact H
              have Ny200 := Aside0.mk hy200
              clear hy200
              have H' := Aside0.mk H
              clear H
              have p6 : 0 ≤ (x4_1 : Int) := of_decide_eq_true (by first | (with_reducible assumption) | assumption)
              have q6 : x4_1 < (a0.size : Int) := of_decide_eq_true (by first | (with_reducible assumption) | assumption)
              have hx6 := bt_at a0 x4_1
              replace p6 := eq_true p6
              replace q6 := eq_true q6
              go_wp2_with (first | ((with_reducible refine gate_builtin (b := .append) (xs := #[.tmp 24, .tmp 26]) rfl ?_); at_builtin; refine Kd.R_append (Kd.int .u8) (w0 := w) w.heap.size rfl (.tmp 24) (.tmp 26) 40 5 (.int .u8 0) 1 rfl Tryd.underlying40 info5 rfl (by decide) (by omega) u3 x3_1 (bt a0 x4_1) [.int .u8 (bt a0 x4_1)] (fun _ => True) (fun _ => False) rfl rfl ?aP (fun _ hk => hk.elim) ?aF ?aO ?aB ?aS ?aL ?_; (case aP => exact rfl); (case aB => exact (by repeat (first | (with_reducible first | exact HB.out | apply below_alloc | apply pw_below_drewN | apply below_drew1) | exact HB.out))); (case aF => exact (fun _ _ => trivial)); (case aO => exact (by (with_reducible repeat (first | apply Kd.R_alloc | apply Kd.R_drewN | apply Kd.R_drew)); exact HO_3.out)); (case aS => exact (below_size (by repeat (first | (with_reducible first | exact HB.out | apply below_alloc | apply pw_below_drewN | apply below_drew1) | exact HB.out)))); (case aL => have := LMc13.out; omega); intro v201 w14 ho hb hg hat; rw [← Ny200.out] at ho; have n0_ := Aside0.mk (hb); have n1_ := Aside0.mk (ho); clear HB; clear HO_3; have HB := n0_; have HO202 := n1_; clear n0_ n1_; clear ho hb hg hat))
              go_roundg k1
              case measure => have := HK1.out; omega
              case rel => exact ⟨(y200), (wrap64 (x4_1 + 1)), (by first | rfl | (simp; done) | (simp [*]; done)), H', ⟨by have := HK1.out; omega⟩, ⟨by (with_reducible repeat (first | apply Kd.R_alloc | apply Kd.R_drewN | apply Kd.R_drew)); exact HO202.out⟩, ⟨by repeat (first | (with_reducible first | exact HB.out | apply below_alloc | apply pw_below_drewN | apply below_drew1) | exact HB.out)⟩⟩
            · rw [if_neg c13] at H
              exact absurd H (by simp)
        · rw [if_neg c5] at H
          exact absurd H (by simp)
      · rw [if_neg c4] at H
        have c4b0 : decide (x4_1 < (a0.size : Int)) = false := decide_eq_false c4
        clear c4
        obtain rfl := Option.some.inj H
        have hcv15 := own_string (P := Tryd.prog) Tryd.underlying40 Tryd.underlying5 Tryd.underlying9 (Kd.own_of_R HO_3.out)
        go_wp2
        all_goals go_ret
        all_goals exact ⟨by first | rfl | (simp [errW_none, errW_some] <;> rfl) | (simp [*, errW_none, errW_some] <;> rfl), by repeat (first | (with_reducible first | exact HB.out | apply below_alloc | apply pw_below_drewN | apply below_drew1) | exact HB.out)⟩

end Go.Proofs.YtencimfeipglaaaDoor.X

namespace Go.Proofs.YtencimfeipglaaaDoor.X
open Go.RowKit Go.Proofs.YtencimfeipglaaaDoorW.PrintWords Go.Proofs.YtencimfeipglaaaDoorW.PrintLast Go.Proofs.YtencimfeipglaaaDoorW.PrintMore
attribute [local go_sem] binOp_str_gtr binOp_str_leq binOp_str_geq max2_int min2_int max_two min_two max_three min_three max_four min_four   -- for this text's walks alone
set_option linter.unusedVariables false
set_option linter.unusedSimpArgs false

/-! ### tipstaffref07_Find: function 60 -/
def tipstaffref07_Find.l0 : Nat → ByteArray → List (S31) → Int → Option (Int × Bool)
  | 0, _, _, _ => none
  | k + 1, x0, x4, x5 => if x5 < (x4.length : Int) then (if 0 ≤ x5 then ((tipstaffref01_Lower.f k x0).bind fun t207 => (if ((rd_T31 x4 x5).f0).toList = t207.toList then (some (x5, true)) else (tipstaffref07_Find.l0 k x0 x4 (wrap64 (x5 + 1))))) else (none)) else (some ((-1), false))
def tipstaffref07_Find.f (k : Nat) (a0 : ByteArray) : Option (Int × Bool) := (tipstaffref07_All.f).bind fun t203 => (tipstaffref07_Find.l0 k a0 t203 0)
theorem tipstaffref07_Find.mono_l : ∀ k, (∀ y0 y1 y2, LeO (tipstaffref07_Find.l0 k y0 y1 y2) (tipstaffref07_Find.l0 (k + 1) y0 y1 y2))
  | 0 => fun _ _ _ r h => by simp [tipstaffref07_Find.l0] at h
  | k + 1 => by
    have ih0 := tipstaffref07_Find.mono_l k
    · intro y0 y1 y2
      unfold tipstaffref07_Find.l0
      repeat' first
      | (with_reducible exact ih0 _ _ _)
      | (with_reducible exact tipstaffref01_Lower.mono _ _)
      | (with_reducible exact LeO.refl _)
      | (with_reducible exact LeO.none _)
      | (with_reducible refine LeO.ite ?_ ?_)
      | (with_reducible refine LeO.bind ?_ (fun _ => ?_))
      | exact ih0 _ _ _
      | exact tipstaffref01_Lower.mono _ _
      | exact LeO.none _
      | refine LeO.ite ?_ ?_
      | refine LeO.bind ?_ (fun _ => ?_)
theorem tipstaffref07_Find.mono : ∀ a0 k, LeO (tipstaffref07_Find.f k a0) (tipstaffref07_Find.f (k + 1) a0) := by
  intro a0 k
  have ih0 := tipstaffref07_Find.mono_l k
  unfold tipstaffref07_Find.f
  repeat' first
      | (with_reducible exact ih0 _ _ _)
      | (with_reducible exact tipstaffref01_Lower.mono _ _)
      | (with_reducible exact LeO.refl _)
      | (with_reducible exact LeO.none _)
      | (with_reducible refine LeO.ite ?_ ?_)
      | (with_reducible refine LeO.bind ?_ (fun _ => ?_))
      | exact ih0 _ _ _
      | exact tipstaffref01_Lower.mono _ _
      | exact LeO.none _
      | refine LeO.ite ?_ ?_
      | refine LeO.bind ?_ (fun _ => ?_)
def tipstaffref07_Find.T5 : Bool × List (List Nat × List Nat) := (true, [([], []), ([], []), ([0, 1], [0, 1]), ([2], [2]), ([3], [3]), ([], []), ([5], [5]), ([4, 6], [4, 6])])
def tipstaffref07_Find.B5 : List Nat := [0, 0, 3, 7, 15, 0, 32, 127]
theorem tipstaffref07_Find.tab5 : rtab .any (opsOf Tryd.f60 5) = tipstaffref07_Find.T5 := by kernel_rfl
theorem tipstaffref07_Find.bits5 : waitsOk tipstaffref07_Find.T5.2 tipstaffref07_Find.B5 = true := by kernel_rfl
set_option maxHeartbeats 8000000 in
set_option maxRecDepth 100000 in
theorem tipstaffref07_Find.calls (k : Nat) (a0 : ByteArray) (r1 : Int) (r2 : Bool) (w : World) (h : tipstaffref07_Find.f k a0 = some (r1, r2)) :
    Calls Tryd.prog 60 #[.string a0] w fun e w' => e = .returned (.tuple #[.int .i64 r1, .bool r2]) ∧ Below w.heap.size w w' := by
  have HB := Aside0.mk (Below.refl w.heap.size w)
  have H : ((tipstaffref07_All.f).bind fun t203 => (tipstaffref07_Find.l0 k a0 t203 0)) = some (r1, r2) := h
  clear h
  replace H := Option.bind_eq_some_iff.mp H
  obtain ⟨t203, A20, H⟩ := H
  replace H : (tipstaffref07_Find.l0 k a0 t203 0) = some (r1, r2) := H
  have A2 := Aside0.mk A20
  clear A20
  have H' := Aside0.mk H
  clear H
  go_enter Tryd.func60, Tryd.ntmps60
  go_wp2_with (first | ((with_reducible refine gate_callee (f := 43) rfl ?_); refine goesL_ (some 6) rfl rfl Tryd.func43 (by kernel_rfl) rfl #[] rfl (by (try simp only [List.map_toArray, List.map_cons, List.map_nil]); first | done | rfl | (simp only [List.length_drop, List.length_take]; rfl)) ?_; (with_reducible refine (tipstaffref07_All.calls  t203 _ A2.out).mono ?_); rintro e w3 ⟨v204, rfl, ho0, hb⟩; refine ⟨_, rfl, ?_⟩; have n0_ := Aside0.mk (Kd.R_lower ho0 (below_size (by repeat (first | (with_reducible first | exact HB.out | apply below_alloc | apply pw_below_drewN | apply below_drew1) | exact HB.out)))); have n1_ := Aside0.mk (below_step (by repeat (first | (with_reducible first | exact HB.out | apply below_alloc | apply pw_below_drewN | apply below_drew1) | exact HB.out)) hb); clear HB; have HO205 := n0_; have HB := n1_; clear n0_ n1_; (try clear hb); (try clear hb2); (try clear hk); (try clear hi); (try clear ho0)))
  go_loopg [5] k (fun kq v5 w' => ∃ (x5_1 : Int), v5 = .int .i64 x5_1 ∧ Aside0 (tipstaffref07_Find.l0 kq a0 t203 x5_1 = some (r1, r2)) ∧ Aside0 (kq ≤ k) ∧ Aside0 (Kd.R k31 31 w' w.heap.size (fun _ => True) v204 t203) ∧ Aside0 (Below w.heap.size w w'))
  case atStart => exact ⟨(0), (by first | rfl | (simp; done) | (simp [*]; done)), H', ⟨Nat.le_refl _⟩, ⟨by (with_reducible repeat (first | apply Kd.R_alloc | apply Kd.R_drewN | apply Kd.R_drew)); exact HO205.out⟩, ⟨by repeat (first | (with_reducible first | exact HB.out | apply below_alloc | apply pw_below_drewN | apply below_drew1) | exact HB.out)⟩⟩
  case round =>
    clear H'
    try clear p2
    obtain ⟨x5_1, rfl, HA, HK1, HO_4, HB⟩ := hrel
    cases gk with
    | zero => exact absurd HA.out (by simp [tipstaffref07_Find.l0])
    | succ k1 =>
      have H := HA.out
      clear HA
      simp only [tipstaffref07_Find.l0] at H
      by_cases c4 : x5_1 < (t203.length : Int)
      · rw [if_pos c4] at H
        have c4b0 : decide (x5_1 < (t203.length : Int)) = true := decide_eq_true c4
        clear c4
        by_cases c5 : 0 ≤ x5_1
        · rw [if_pos c5] at H
          have c5b0 : decide (0 ≤ x5_1) = true := decide_eq_true c5
          clear c5
          replace H := Option.bind_eq_some_iff.mp H
          obtain ⟨t207, A60, H⟩ := H
          replace H : (if ((rd_T31 t203 x5_1).f0).toList = t207.toList then (some (x5_1, true)) else (tipstaffref07_Find.l0 k1 a0 t203 (wrap64 (x5_1 + 1)))) = some (r1, r2) := H
          have A6 := Aside0.mk A60
          clear A60
          by_cases c7 : ((rd_T31 t203 x5_1).f0).toList = t207.toList
          · rw [if_pos c7] at H
            have c7b0 : (((rd_T31 t203 x5_1).f0).toList == t207.toList) = true := beq_iff_eq.mpr c7
            have c7b1 : (((rd_T31 t203 x5_1).f0).toList != t207.toList) = false := bne_eq_false_iff_eq.mpr c7
            clear c7
            simp only [Option.some.injEq, Prod.mk.injEq] at H
            obtain ⟨rfl, rfl⟩ := H
            obtain ⟨Ao8, co8, eo8⟩ := Kd.R_slice HO_4.out
            subst eo8
            try go_wp2
            have n0_ := Aside0.mk (Kd.R_drew HO_4.out)
            have n1_ := Aside0.mk (below_drew1 HB.out)
            clear HO_4
            clear HB
            have HO_4 := n0_
            have HB := n1_
            clear n0_ n1_
            have p206 : 0 ≤ (x5_1 : Int) := of_decide_eq_true (by first | (with_reducible assumption) | assumption)
            have q206 : x5_1 < (t203.length : Int) := of_decide_eq_true (by first | (with_reducible assumption) | assumption)
            obtain ⟨ad206, e206, hx206_0, hx206_1, hx206_2⟩ := at_T31 (Kd.R_reads' HO_4.out).2.2 x5_1 p206 q206
            cases e206
            replace p206 := eq_true p206
            replace q206 := eq_true q206
            refine start_ (n := 8) (S := fun w' => w'.cell? (ad206.add ((x5_1).toNat * 3)) = some (.string ((rd_T31 t203 x5_1).f0)) ∧ w'.cell? ⟨(ad206.add ((x5_1).toNat * 3)).block, (ad206.add ((x5_1).toNat * 3)).off + 1, none⟩ = some (.int .i64 ((rd_T31 t203 x5_1).f1)) ∧ w'.cell? ⟨(ad206.add ((x5_1).toNat * 3)).block, (ad206.add ((x5_1).toNat * 3)).off + 2, none⟩ = some (.int .u16 ((rd_T31 t203 x5_1).f2))) (ds := []) #[false, false, false, false, false, false, false, false] (by kernel_rfl) rfl rfl ⟨hx206_0, hx206_1, hx206_2⟩ (fun hHeld => ?_); refine with_tabW tipstaffref07_Find.tab5 tipstaffref07_Find.bits5 (fun HT_ HW_ => ?_)
            generalize wr.drew = w9 at HO_4 HB hx206_0 hx206_1 hx206_2 hHeld ⊢
            refine pure_ (i := 0) (N := some 13) (v := ?_) (a' := ?_) #[true, false, false, false, false, false, false, false] rfl rfl (any_of HT_.out (by kernel_rfl)) (fun _ _ _ h => h) (Or.inl ⟨by rfl, ?_⟩) ?_ ?_
            rotate_left
            · intro w'
              go_simp
              with_reducible rfl
            rotate_left
            · simp only [Act.put, List.setIfInBounds_toArray, List.set_cons_zero, List.set_cons_succ, i64_w, i32_w]
              rfl
            refine pure_ (i := 1) (N := some 14) (v := ?_) (a' := ?_) #[true, true, false, false, false, false, false, false] rfl rfl (any_of HT_.out (by kernel_rfl)) (fun _ _ _ h => h) (Or.inl ⟨by rfl, ?_⟩) ?_ ?_
            rotate_left
            · intro w'
              go_simp
              with_reducible rfl
            rotate_left
            · simp only [Act.put, List.setIfInBounds_toArray, List.set_cons_zero, List.set_cons_succ, i64_w, i32_w]
              rfl
            refine pure_ (i := 2) (N := some 15) (v := ?_) (a' := ?_) #[true, true, true, false, false, false, false, false] rfl rfl (any_of HT_.out (by kernel_rfl)) (fun _ _ _ h => h) (Or.inl ⟨by rfl, ?_⟩) ?_ ?_
            rotate_left
            · intro w'
              go_simp
              with_reducible rfl
            rotate_left
            · simp only [Act.put, List.setIfInBounds_toArray, List.set_cons_zero, List.set_cons_succ, i64_w, i32_w]
              rfl
            refine pure_ (i := 3) (N := some 16) (v := ?_) (a' := ?_) #[true, true, true, true, false, false, false, false] rfl rfl (any_of HT_.out (by kernel_rfl)) (fun _ _ _ h => h) (Or.inl ⟨by rfl, ?_⟩) ?_ ?_
            rotate_left
            · intro w'
              go_simp
              with_reducible rfl
            rotate_left
            · simp only [Act.put, List.setIfInBounds_toArray, List.set_cons_zero, List.set_cons_succ, i64_w, i32_w]
              rfl
            refine pure_ (i := 5) (N := some 18) (v := ?_) (a' := ?_) #[true, true, true, true, false, true, false, false] rfl rfl (any_of HT_.out (by kernel_rfl)) (fun _ _ _ h => h) (Or.inl ⟨by rfl, ?_⟩) ?_ ?_
            rotate_left
            · intro w'
              go_simp
              with_reducible rfl
            rotate_left
            · simp only [Act.put, List.setIfInBounds_toArray, List.set_cons_zero, List.set_cons_succ, i64_w, i32_w]
              rfl
            refine take_ (i := 4) (N := some 17) (v := ?_) (a' := ?_) #[true, true, true, true, true, true, false, false] rfl rfl (take_ofW HT_.out HW_.out (by kernel_rfl)) (fun _ _ _ h => h) (Or.inl ⟨by rfl, ?_⟩) hHeld ?_ ?_
            rotate_left
            · rintro w' ⟨s0, s1, s2⟩
              go_simp
              with_reducible rfl
            rotate_left
            · simp only [Act.put, List.setIfInBounds_toArray, List.set_cons_zero, List.set_cons_succ, i64_w, i32_w]
              rfl
            refine one_ (i := 6) (N := some 19) #[true, true, true, true, true, true, true, false] rfl rfl (one_of HT_.out (by kernel_rfl)) (by decide) (fun K hK => ?_)
            refine goes_ Tryd.func61 (by kernel_rfl) rfl #[.string a0] (by rfl) rfl rfl (by (try simp only [List.map_toArray, List.map_cons, List.map_nil]); first | done | rfl | (simp only [List.length_drop, List.length_take]; rfl)) ?_
            with_reducible refine (tipstaffref01_Lower.calls k1 a0 t207 _ A6.out).mono ?_
            rintro e w10 ⟨rfl, hb⟩
            have HS0_ := (hb.cell (World.block_lt_of_cell? _ _ (hHeld.1))).trans (hHeld.1)
            have HS1_ := (hb.cell (World.block_lt_of_cell? _ _ (hHeld.2.1))).trans (hHeld.2.1)
            have HS2_ := (hb.cell (World.block_lt_of_cell? _ _ (hHeld.2.2))).trans (hHeld.2.2)
            refine ⟨_, rfl, ?_⟩
            have n0_ := Aside0.mk (Kd.R_below (by (with_reducible repeat (first | apply Kd.R_alloc | apply Kd.R_drewN | apply Kd.R_drew)); exact HO_4.out) hb)
            have n1_ := Aside0.mk (below_step (by repeat (first | (with_reducible first | exact HB.out | apply below_alloc | apply pw_below_drewN | apply below_drew1) | exact HB.out)) hb)
            clear HO_4
            clear HB
            have HO_4 := n0_
            have HB := n1_
            clear n0_ n1_
            (try clear hb)
            (try clear hb2)
            (try clear hk)
            (try clear hi)
            refine hK.out _ _ ⟨HS0_, HS1_, HS2_⟩ (fun hHeld => ?_)
            clear hK K
            refine norm_ (a' := ?_) ?_ ?_
            rotate_left
            · show Act.put _ (some 19) _ = _
              simp only [Act.put, List.setIfInBounds_toArray, List.set_cons_zero, List.set_cons_succ, i64_w, i32_w]
              rfl
            refine pure_ (i := 7) (N := some 20) (v := ?_) (a' := ?_) #[true, true, true, true, true, true, true, true] rfl rfl (any_of HT_.out (by kernel_rfl)) (fun _ _ _ h => h) (Or.inl ⟨by rfl, ?_⟩) ?_ ?_
            rotate_left
            · intro w'
              go_simp
              with_reducible rfl
            rotate_left
            · simp only [Act.put, List.setIfInBounds_toArray, List.set_cons_zero, List.set_cons_succ, i64_w, i32_w]
              rfl
            refine done_ (done_of HT_.out (by kernel_rfl)) ?_
            try go_wp2
            all_goals go_ret2
            all_goals exact ⟨by first | rfl | (simp [errW_none, errW_some] <;> rfl) | (simp [*, errW_none, errW_some] <;> rfl), by repeat (first | (with_reducible first | exact HB.out | apply below_alloc | apply pw_below_drewN | apply below_drew1) | exact HB.out)⟩
          · rw [if_neg c7] at H
            have c7b0 : (((rd_T31 t203 x5_1).f0).toList == t207.toList) = false := beq_eq_false_iff_ne.mpr c7
            have c7b1 : (((rd_T31 t203 x5_1).f0).toList != t207.toList) = true := bne_iff_ne.mpr c7
            have H' := Aside0.mk H
            clear H
            obtain ⟨Ao11, co11, eo11⟩ := Kd.R_slice HO_4.out
            subst eo11
            try go_wp2
            have n0_ := Aside0.mk (Kd.R_drew HO_4.out)
            have n1_ := Aside0.mk (below_drew1 HB.out)
            clear HO_4
            clear HB
            have HO_4 := n0_
            have HB := n1_
            clear n0_ n1_
            have p206 : 0 ≤ (x5_1 : Int) := of_decide_eq_true (by first | (with_reducible assumption) | assumption)
            have q206 : x5_1 < (t203.length : Int) := of_decide_eq_true (by first | (with_reducible assumption) | assumption)
            obtain ⟨ad206, e206, hx206_0, hx206_1, hx206_2⟩ := at_T31 (Kd.R_reads' HO_4.out).2.2 x5_1 p206 q206
            cases e206
            replace p206 := eq_true p206
            replace q206 := eq_true q206
            refine start_ (n := 8) (S := fun w' => w'.cell? (ad206.add ((x5_1).toNat * 3)) = some (.string ((rd_T31 t203 x5_1).f0)) ∧ w'.cell? ⟨(ad206.add ((x5_1).toNat * 3)).block, (ad206.add ((x5_1).toNat * 3)).off + 1, none⟩ = some (.int .i64 ((rd_T31 t203 x5_1).f1)) ∧ w'.cell? ⟨(ad206.add ((x5_1).toNat * 3)).block, (ad206.add ((x5_1).toNat * 3)).off + 2, none⟩ = some (.int .u16 ((rd_T31 t203 x5_1).f2))) (ds := []) #[false, false, false, false, false, false, false, false] (by kernel_rfl) rfl rfl ⟨hx206_0, hx206_1, hx206_2⟩ (fun hHeld => ?_); refine with_tabW tipstaffref07_Find.tab5 tipstaffref07_Find.bits5 (fun HT_ HW_ => ?_)
            generalize wr.drew = w12 at HO_4 HB hx206_0 hx206_1 hx206_2 hHeld ⊢
            refine pure_ (i := 0) (N := some 13) (v := ?_) (a' := ?_) #[true, false, false, false, false, false, false, false] rfl rfl (any_of HT_.out (by kernel_rfl)) (fun _ _ _ h => h) (Or.inl ⟨by rfl, ?_⟩) ?_ ?_
            rotate_left
            · intro w'
              go_simp
              with_reducible rfl
            rotate_left
            · simp only [Act.put, List.setIfInBounds_toArray, List.set_cons_zero, List.set_cons_succ, i64_w, i32_w]
              rfl
            refine pure_ (i := 1) (N := some 14) (v := ?_) (a' := ?_) #[true, true, false, false, false, false, false, false] rfl rfl (any_of HT_.out (by kernel_rfl)) (fun _ _ _ h => h) (Or.inl ⟨by rfl, ?_⟩) ?_ ?_
            rotate_left
            · intro w'
              go_simp
              with_reducible rfl
            rotate_left
            · simp only [Act.put, List.setIfInBounds_toArray, List.set_cons_zero, List.set_cons_succ, i64_w, i32_w]
              rfl
            refine pure_ (i := 2) (N := some 15) (v := ?_) (a' := ?_) #[true, true, true, false, false, false, false, false] rfl rfl (any_of HT_.out (by kernel_rfl)) (fun _ _ _ h => h) (Or.inl ⟨by rfl, ?_⟩) ?_ ?_
            rotate_left
            · intro w'
              go_simp
              with_reducible rfl
            rotate_left
            · simp only [Act.put, List.setIfInBounds_toArray, List.set_cons_zero, List.set_cons_succ, i64_w, i32_w]
              rfl
            refine pure_ (i := 3) (N := some 16) (v := ?_) (a' := ?_) #[true, true, true, true, false, false, false, false] rfl rfl (any_of HT_.out (by kernel_rfl)) (fun _ _ _ h => h) (Or.inl ⟨by rfl, ?_⟩) ?_ ?_
            rotate_left
            · intro w'
              go_simp
              with_reducible rfl
            rotate_left
            · simp only [Act.put, List.setIfInBounds_toArray, List.set_cons_zero, List.set_cons_succ, i64_w, i32_w]
              rfl
            refine pure_ (i := 5) (N := some 18) (v := ?_) (a' := ?_) #[true, true, true, true, false, true, false, false] rfl rfl (any_of HT_.out (by kernel_rfl)) (fun _ _ _ h => h) (Or.inl ⟨by rfl, ?_⟩) ?_ ?_
            rotate_left
            · intro w'
              go_simp
              with_reducible rfl
            rotate_left
            · simp only [Act.put, List.setIfInBounds_toArray, List.set_cons_zero, List.set_cons_succ, i64_w, i32_w]
              rfl
            refine take_ (i := 4) (N := some 17) (v := ?_) (a' := ?_) #[true, true, true, true, true, true, false, false] rfl rfl (take_ofW HT_.out HW_.out (by kernel_rfl)) (fun _ _ _ h => h) (Or.inl ⟨by rfl, ?_⟩) hHeld ?_ ?_
            rotate_left
            · rintro w' ⟨s0, s1, s2⟩
              go_simp
              with_reducible rfl
            rotate_left
            · simp only [Act.put, List.setIfInBounds_toArray, List.set_cons_zero, List.set_cons_succ, i64_w, i32_w]
              rfl
            refine one_ (i := 6) (N := some 19) #[true, true, true, true, true, true, true, false] rfl rfl (one_of HT_.out (by kernel_rfl)) (by decide) (fun K hK => ?_)
            refine goes_ Tryd.func61 (by kernel_rfl) rfl #[.string a0] (by rfl) rfl rfl (by (try simp only [List.map_toArray, List.map_cons, List.map_nil]); first | done | rfl | (simp only [List.length_drop, List.length_take]; rfl)) ?_
            with_reducible refine (tipstaffref01_Lower.calls k1 a0 t207 _ A6.out).mono ?_
            rintro e w13 ⟨rfl, hb⟩
            have HS0_ := (hb.cell (World.block_lt_of_cell? _ _ (hHeld.1))).trans (hHeld.1)
            have HS1_ := (hb.cell (World.block_lt_of_cell? _ _ (hHeld.2.1))).trans (hHeld.2.1)
            have HS2_ := (hb.cell (World.block_lt_of_cell? _ _ (hHeld.2.2))).trans (hHeld.2.2)
            refine ⟨_, rfl, ?_⟩
            have n0_ := Aside0.mk (Kd.R_below (by (with_reducible repeat (first | apply Kd.R_alloc | apply Kd.R_drewN | apply Kd.R_drew)); exact HO_4.out) hb)
            have n1_ := Aside0.mk (below_step (by repeat (first | (with_reducible first | exact HB.out | apply below_alloc | apply pw_below_drewN | apply below_drew1) | exact HB.out)) hb)
            clear HO_4
            clear HB
            have HO_4 := n0_
            have HB := n1_
            clear n0_ n1_
            (try clear hb)
            (try clear hb2)
            (try clear hk)
            (try clear hi)
            refine hK.out _ _ ⟨HS0_, HS1_, HS2_⟩ (fun hHeld => ?_)
            clear hK K
            refine norm_ (a' := ?_) ?_ ?_
            rotate_left
            · show Act.put _ (some 19) _ = _
              simp only [Act.put, List.setIfInBounds_toArray, List.set_cons_zero, List.set_cons_succ, i64_w, i32_w]
              rfl
            refine pure_ (i := 7) (N := some 20) (v := ?_) (a' := ?_) #[true, true, true, true, true, true, true, true] rfl rfl (any_of HT_.out (by kernel_rfl)) (fun _ _ _ h => h) (Or.inl ⟨by rfl, ?_⟩) ?_ ?_
            rotate_left
            · intro w'
              go_simp
              with_reducible rfl
            rotate_left
            · simp only [Act.put, List.setIfInBounds_toArray, List.set_cons_zero, List.set_cons_succ, i64_w, i32_w]
              rfl
            refine done_ (done_of HT_.out (by kernel_rfl)) ?_
            try go_wp2
            go_roundg k1
            case measure => have := HK1.out; omega
            case rel => exact ⟨(wrap64 (x5_1 + 1)), (by first | rfl | (simp; done) | (simp [*]; done)), H', ⟨by have := HK1.out; omega⟩, ⟨by (with_reducible repeat (first | apply Kd.R_alloc | apply Kd.R_drewN | apply Kd.R_drew)); exact HO_4.out⟩, ⟨by repeat (first | (with_reducible first | exact HB.out | apply below_alloc | apply pw_below_drewN | apply below_drew1) | exact HB.out)⟩⟩
        · rw [if_neg c5] at H
          exact absurd H (by simp)
      · rw [if_neg c4] at H
        have c4b0 : decide (x5_1 < (t203.length : Int)) = false := decide_eq_false c4
        clear c4
        simp only [Option.some.injEq, Prod.mk.injEq] at H
        obtain ⟨rfl, rfl⟩ := H
        obtain ⟨Ao14, co14, eo14⟩ := Kd.R_slice HO_4.out
        subst eo14
        go_wp2
        all_goals go_ret2
        all_goals exact ⟨by first | rfl | (simp [errW_none, errW_some] <;> rfl) | (simp [*, errW_none, errW_some] <;> rfl), by repeat (first | (with_reducible first | exact HB.out | apply below_alloc | apply pw_below_drewN | apply below_drew1) | exact HB.out)⟩

end Go.Proofs.YtencimfeipglaaaDoor.X

namespace Go.Proofs.YtencimfeipglaaaDoor.X
open Go.RowKit Go.Proofs.YtencimfeipglaaaDoorW.PrintWords Go.Proofs.YtencimfeipglaaaDoorW.PrintLast Go.Proofs.YtencimfeipglaaaDoorW.PrintMore
attribute [local go_sem] binOp_str_gtr binOp_str_leq binOp_str_geq max2_int min2_int max_two min_two max_three min_three max_four min_four   -- for this text's walks alone
set_option linter.unusedVariables false
set_option linter.unusedSimpArgs false

/-! ### tipstaffref17_mask: function 41 -/
def tipstaffref17_mask.f (k : Nat) (a0 : ByteArray) : Option (Int × Bool) := (tipstaffref17_begins.f a0 (⟨#[64]⟩ : ByteArray)).bind fun bt208 => (if bt208.2 = true then ((tipstaffref07_Cat.f k bt208.1).bind fun bt210 => (some (bt210.1, bt210.2))) else ((tipstaffref07_Find.f k a0).bind fun bt212 => (if bt212.2 = true then ((tipstaffref01_Lower.f k a0).bind fun t214 => (if t214.toList = a0.toList then (if 0 ≤ bt212.1 then (some (shl .u64 1 bt212.1, true)) else (none)) else (some (0, false)))) else (some (0, false)))))
theorem tipstaffref17_mask.mono : ∀ a0 k, LeO (tipstaffref17_mask.f k a0) (tipstaffref17_mask.f (k + 1) a0) := by
  intro a0 k
  unfold tipstaffref17_mask.f
  repeat' first
      | (with_reducible exact tipstaffref01_Lower.mono _ _)
      | (with_reducible exact tipstaffref07_Cat.mono _ _)
      | (with_reducible exact tipstaffref07_Find.mono _ _)
      | (with_reducible exact LeO.refl _)
      | (with_reducible exact LeO.none _)
      | (with_reducible refine LeO.ite ?_ ?_)
      | (with_reducible refine LeO.bind ?_ (fun _ => ?_))
      | exact tipstaffref01_Lower.mono _ _
      | exact tipstaffref07_Cat.mono _ _
      | exact tipstaffref07_Find.mono _ _
      | exact LeO.none _
      | refine LeO.ite ?_ ?_
      | refine LeO.bind ?_ (fun _ => ?_)
set_option maxHeartbeats 8000000 in
set_option maxRecDepth 100000 in
theorem tipstaffref17_mask.calls (k : Nat) (a0 : ByteArray) (r1 : Int) (r2 : Bool) (w : World) (h : tipstaffref17_mask.f k a0 = some (r1, r2)) :
    Calls Tryd.prog 41 #[.string a0] w fun e w' => e = .returned (.tuple #[.int .u64 r1, .bool r2]) ∧ Below w.heap.size w w' := by
  have HB := Aside0.mk (Below.refl w.heap.size w)
  have H : ((tipstaffref17_begins.f a0 (⟨#[64]⟩ : ByteArray)).bind fun bt208 => (if bt208.2 = true then ((tipstaffref07_Cat.f k bt208.1).bind fun bt210 => (some (bt210.1, bt210.2))) else ((tipstaffref07_Find.f k a0).bind fun bt212 => (if bt212.2 = true then ((tipstaffref01_Lower.f k a0).bind fun t214 => (if t214.toList = a0.toList then (if 0 ≤ bt212.1 then (some (shl .u64 1 bt212.1, true)) else (none)) else (some (0, false)))) else (some (0, false)))))) = some (r1, r2) := h
  clear h
  replace H := Option.bind_eq_some_iff.mp H
  obtain ⟨⟨t208, t209⟩, A20, H⟩ := H
  replace H : (if t209 = true then ((tipstaffref07_Cat.f k t208).bind fun bt210 => (some (bt210.1, bt210.2))) else ((tipstaffref07_Find.f k a0).bind fun bt212 => (if bt212.2 = true then ((tipstaffref01_Lower.f k a0).bind fun t214 => (if t214.toList = a0.toList then (if 0 ≤ bt212.1 then (some (shl .u64 1 bt212.1, true)) else (none)) else (some (0, false)))) else (some (0, false))))) = some (r1, r2) := H
  have A2 := Aside0.mk A20
  clear A20
  by_cases c3 : t209 = true
  · subst c3
    have H1 : ((tipstaffref07_Cat.f k t208).bind fun bt210 => (some (bt210.1, bt210.2))) = some (r1, r2) := by rw [if_pos rfl] at H; exact H
    clear H
    have H := H1
    clear H1
    replace H := Option.bind_eq_some_iff.mp H
    obtain ⟨⟨t210, t211⟩, A40, H⟩ := H
    replace H : (some (t210, t211)) = some (r1, r2) := H
    have A4 := Aside0.mk A40
    clear A40
    simp only [Option.some.injEq, Prod.mk.injEq] at H
    obtain ⟨rfl, rfl⟩ := H
    go_enter Tryd.func41, Tryd.ntmps41
    go_wp2_with (first | ((with_reducible refine gate_callee (f := 40) rfl ?_); refine goesL_ (some 10) rfl rfl Tryd.func40 (by kernel_rfl) rfl #[.string a0, .string (⟨#[64]⟩ : ByteArray)] rfl (by (try simp only [List.map_toArray, List.map_cons, List.map_nil]); first | done | rfl | (simp only [List.length_drop, List.length_take]; rfl)) ?_; (with_reducible refine (tipstaffref17_begins.calls a0 (⟨#[64]⟩ : ByteArray) t208 true _ A2.out).mono ?_); rintro e w' ⟨rfl, ⟨nd, rfl⟩⟩; refine ⟨_, rfl, ?_⟩) | ((with_reducible refine gate_callee (f := 19) rfl ?_); refine goesL_ (some 15) rfl rfl Tryd.func19 (by kernel_rfl) rfl #[.string t208] rfl (by (try simp only [List.map_toArray, List.map_cons, List.map_nil]); first | done | rfl | (simp only [List.length_drop, List.length_take]; rfl)) ?_; (with_reducible refine (tipstaffref07_Cat.calls k t208 t210 t211 _ A4.out).mono ?_); rintro e w5 ⟨rfl, hb⟩; refine ⟨_, rfl, ?_⟩; have n0_ := Aside0.mk (below_step (by repeat (first | (with_reducible first | exact HB.out | apply below_alloc | apply pw_below_drewN | apply below_drew1) | exact HB.out)) hb); clear HB; have HB := n0_; clear n0_; (try clear hb); (try clear hb2); (try clear hk); (try clear hi)))
    all_goals go_ret2
    all_goals exact ⟨by first | rfl | (simp [errW_none, errW_some] <;> rfl) | (simp [*, errW_none, errW_some] <;> rfl), by repeat (first | (with_reducible first | exact HB.out | apply below_alloc | apply pw_below_drewN | apply below_drew1) | exact HB.out)⟩
  · replace c3 := Bool.eq_false_iff.mpr c3
    subst c3
    have H1 : ((tipstaffref07_Find.f k a0).bind fun bt212 => (if bt212.2 = true then ((tipstaffref01_Lower.f k a0).bind fun t214 => (if t214.toList = a0.toList then (if 0 ≤ bt212.1 then (some (shl .u64 1 bt212.1, true)) else (none)) else (some (0, false)))) else (some (0, false)))) = some (r1, r2) := by rw [if_neg (show ¬ (false = true) by decide)] at H; exact H
    clear H
    have H := H1
    clear H1
    replace H := Option.bind_eq_some_iff.mp H
    obtain ⟨⟨t212, t213⟩, A60, H⟩ := H
    replace H : (if t213 = true then ((tipstaffref01_Lower.f k a0).bind fun t214 => (if t214.toList = a0.toList then (if 0 ≤ t212 then (some (shl .u64 1 t212, true)) else (none)) else (some (0, false)))) else (some (0, false))) = some (r1, r2) := H
    have A6 := Aside0.mk A60
    clear A60
    by_cases c7 : t213 = true
    · subst c7
      have H1 : ((tipstaffref01_Lower.f k a0).bind fun t214 => (if t214.toList = a0.toList then (if 0 ≤ t212 then (some (shl .u64 1 t212, true)) else (none)) else (some (0, false)))) = some (r1, r2) := by rw [if_pos rfl] at H; exact H
      clear H
      have H := H1
      clear H1
      replace H := Option.bind_eq_some_iff.mp H
      obtain ⟨t214, A80, H⟩ := H
      replace H : (if t214.toList = a0.toList then (if 0 ≤ t212 then (some (shl .u64 1 t212, true)) else (none)) else (some (0, false))) = some (r1, r2) := H
      have A8 := Aside0.mk A80
      clear A80
      by_cases c9 : t214.toList = a0.toList
      · rw [if_pos c9] at H
        have c9b0 : (t214.toList == a0.toList) = true := beq_iff_eq.mpr c9
        have c9b1 : (t214.toList != a0.toList) = false := bne_eq_false_iff_eq.mpr c9
        clear c9
        by_cases c10 : 0 ≤ t212
        · rw [if_pos c10] at H
          have c10b0 := eq_true c10
          have c10b1 : decide (0 ≤ t212) = true := decide_eq_true c10
          clear c10
          obtain ⟨ji11, hji11⟩ : ∃ j_ : Int, (shl .u64 1 t212) = j_ := ⟨_, rfl⟩
          replace H : (some (ji11, true)) = some (r1, r2) := by first | (rw [hji11] at H; exact H) | (simp only [hji11] at H ⊢; exact H)
          (try rw [hji11] at A2)
          (try rw [hji11] at A6)
          (try rw [hji11] at A8)
          have hji11_ : (IntKind.u64.wrap (1 * 2 ^ min t212.toNat 64)) = ji11 := hji11
          have hji11z : t212 ≤ 64 → (IntKind.u64.wrap (1 * 2 ^ t212.toNat)) = ji11 := shl_small hji11
          have hji11u : (IntKind.u64.wrap (2 ^ min t212.toNat 64)) = ji11 := by have h_ := hji11_; rw [Int.one_mul] at h_; exact h_
          have hji11v : t212 ≤ 64 → (IntKind.u64.wrap (2 ^ t212.toNat)) = ji11 := fun hle_ => by have h_ := hji11z hle_; rw [Int.one_mul] at h_; exact h_
          simp only [Option.some.injEq, Prod.mk.injEq] at H
          obtain ⟨rfl, rfl⟩ := H
          go_enter Tryd.func41, Tryd.ntmps41
          go_wp2_with (first | ((with_reducible refine gate_callee (f := 40) rfl ?_); refine goesL_ (some 10) rfl rfl Tryd.func40 (by kernel_rfl) rfl #[.string a0, .string (⟨#[64]⟩ : ByteArray)] rfl (by (try simp only [List.map_toArray, List.map_cons, List.map_nil]); first | done | rfl | (simp only [List.length_drop, List.length_take]; rfl)) ?_; (with_reducible refine (tipstaffref17_begins.calls a0 (⟨#[64]⟩ : ByteArray) t208 false _ A2.out).mono ?_); rintro e w' ⟨rfl, ⟨nd, rfl⟩⟩; refine ⟨_, rfl, ?_⟩) | ((with_reducible refine gate_callee (f := 60) rfl ?_); refine goesL_ (some 20) rfl rfl Tryd.func60 (by kernel_rfl) rfl #[.string a0] rfl (by (try simp only [List.map_toArray, List.map_cons, List.map_nil]); first | done | rfl | (simp only [List.length_drop, List.length_take]; rfl)) ?_; (with_reducible refine (tipstaffref07_Find.calls k a0 t212 true _ A6.out).mono ?_); rintro e w12 ⟨rfl, hb⟩; refine ⟨_, rfl, ?_⟩; have n0_ := Aside0.mk (below_step (by repeat (first | (with_reducible first | exact HB.out | apply below_alloc | apply pw_below_drewN | apply below_drew1) | exact HB.out)) hb); clear HB; have HB := n0_; clear n0_; (try clear hb); (try clear hb2); (try clear hk); (try clear hi)) | (go_at_call 61; (with_reducible refine (tipstaffref01_Lower.calls k a0 t214 _ A8.out).mono ?_); rintro e w13 ⟨rfl, hb⟩; have n0_ := Aside0.mk (below_step (by repeat (first | (with_reducible first | exact HB.out | apply below_alloc | apply pw_below_drewN | apply below_drew1) | exact HB.out)) hb); clear HB; have HB := n0_; clear n0_; (try clear hb); (try clear hb2); (try clear hk); (try clear hi)))
          all_goals go_ret2
          all_goals exact ⟨by first | rfl | (simp [errW_none, errW_some] <;> rfl) | (simp only [← hji11]; first | rfl | (simp [errW_none, errW_some] <;> rfl)) | (simp [*, errW_none, errW_some] <;> rfl), by repeat (first | (with_reducible first | exact HB.out | apply below_alloc | apply pw_below_drewN | apply below_drew1) | exact HB.out)⟩
        · rw [if_neg c10] at H
          exact absurd H (by simp)
      · rw [if_neg c9] at H
        have c9b0 : (t214.toList == a0.toList) = false := beq_eq_false_iff_ne.mpr c9
        have c9b1 : (t214.toList != a0.toList) = true := bne_iff_ne.mpr c9
        simp only [Option.some.injEq, Prod.mk.injEq] at H
        obtain ⟨rfl, rfl⟩ := H
        go_enter Tryd.func41, Tryd.ntmps41
        go_wp2_with (first | ((with_reducible refine gate_callee (f := 40) rfl ?_); refine goesL_ (some 10) rfl rfl Tryd.func40 (by kernel_rfl) rfl #[.string a0, .string (⟨#[64]⟩ : ByteArray)] rfl (by (try simp only [List.map_toArray, List.map_cons, List.map_nil]); first | done | rfl | (simp only [List.length_drop, List.length_take]; rfl)) ?_; (with_reducible refine (tipstaffref17_begins.calls a0 (⟨#[64]⟩ : ByteArray) t208 false _ A2.out).mono ?_); rintro e w' ⟨rfl, ⟨nd, rfl⟩⟩; refine ⟨_, rfl, ?_⟩) | ((with_reducible refine gate_callee (f := 60) rfl ?_); refine goesL_ (some 20) rfl rfl Tryd.func60 (by kernel_rfl) rfl #[.string a0] rfl (by (try simp only [List.map_toArray, List.map_cons, List.map_nil]); first | done | rfl | (simp only [List.length_drop, List.length_take]; rfl)) ?_; (with_reducible refine (tipstaffref07_Find.calls k a0 t212 true _ A6.out).mono ?_); rintro e w14 ⟨rfl, hb⟩; refine ⟨_, rfl, ?_⟩; have n0_ := Aside0.mk (below_step (by repeat (first | (with_reducible first | exact HB.out | apply below_alloc | apply pw_below_drewN | apply below_drew1) | exact HB.out)) hb); clear HB; have HB := n0_; clear n0_; (try clear hb); (try clear hb2); (try clear hk); (try clear hi)) | (go_at_call 61; (with_reducible refine (tipstaffref01_Lower.calls k a0 t214 _ A8.out).mono ?_); rintro e w15 ⟨rfl, hb⟩; have n0_ := Aside0.mk (below_step (by repeat (first | (with_reducible first | exact HB.out | apply below_alloc | apply pw_below_drewN | apply below_drew1) | exact HB.out)) hb); clear HB; have HB := n0_; clear n0_; (try clear hb); (try clear hb2); (try clear hk); (try clear hi)))
        all_goals go_ret2
        all_goals exact ⟨by first | rfl | (simp [errW_none, errW_some] <;> rfl) | (simp [*, errW_none, errW_some] <;> rfl), by repeat (first | (with_reducible first | exact HB.out | apply below_alloc | apply pw_below_drewN | apply below_drew1) | exact HB.out)⟩
    · replace c7 := Bool.eq_false_iff.mpr c7
      subst c7
      have H1 : (some (0, false)) = some (r1, r2) := by rw [if_neg (show ¬ (false = true) by decide)] at H; exact H
      clear H
      have H := H1
      clear H1
      simp only [Option.some.injEq, Prod.mk.injEq] at H
      obtain ⟨rfl, rfl⟩ := H
      go_enter Tryd.func41, Tryd.ntmps41
      go_wp2_with (first | ((with_reducible refine gate_callee (f := 40) rfl ?_); refine goesL_ (some 10) rfl rfl Tryd.func40 (by kernel_rfl) rfl #[.string a0, .string (⟨#[64]⟩ : ByteArray)] rfl (by (try simp only [List.map_toArray, List.map_cons, List.map_nil]); first | done | rfl | (simp only [List.length_drop, List.length_take]; rfl)) ?_; (with_reducible refine (tipstaffref17_begins.calls a0 (⟨#[64]⟩ : ByteArray) t208 false _ A2.out).mono ?_); rintro e w' ⟨rfl, ⟨nd, rfl⟩⟩; refine ⟨_, rfl, ?_⟩) | ((with_reducible refine gate_callee (f := 60) rfl ?_); refine goesL_ (some 20) rfl rfl Tryd.func60 (by kernel_rfl) rfl #[.string a0] rfl (by (try simp only [List.map_toArray, List.map_cons, List.map_nil]); first | done | rfl | (simp only [List.length_drop, List.length_take]; rfl)) ?_; (with_reducible refine (tipstaffref07_Find.calls k a0 t212 false _ A6.out).mono ?_); rintro e w16 ⟨rfl, hb⟩; refine ⟨_, rfl, ?_⟩; have n0_ := Aside0.mk (below_step (by repeat (first | (with_reducible first | exact HB.out | apply below_alloc | apply pw_below_drewN | apply below_drew1) | exact HB.out)) hb); clear HB; have HB := n0_; clear n0_; (try clear hb); (try clear hb2); (try clear hk); (try clear hi)))
      all_goals go_ret2
      all_goals exact ⟨by first | rfl | (simp [errW_none, errW_some] <;> rfl) | (simp [*, errW_none, errW_some] <;> rfl), by repeat (first | (with_reducible first | exact HB.out | apply below_alloc | apply pw_below_drewN | apply below_drew1) | exact HB.out)⟩

end Go.Proofs.YtencimfeipglaaaDoor.X

namespace Go.Proofs.YtencimfeipglaaaDoor.X
open Go.RowKit Go.Proofs.YtencimfeipglaaaDoorW.PrintWords Go.Proofs.YtencimfeipglaaaDoorW.PrintLast Go.Proofs.YtencimfeipglaaaDoorW.PrintMore
attribute [local go_sem] binOp_str_gtr binOp_str_leq binOp_str_geq max2_int min2_int max_two min_two max_three min_three max_four min_four   -- for this text's walks alone
set_option linter.unusedVariables false
set_option linter.unusedSimpArgs false

/-! ### tipstaffref01_Word: function 20 -/
def tipstaffref01_Word.l0 : Nat → ByteArray → Int → Option (Bool)
  | 0, _, _ => none
  | k + 1, x0, x3 => if x3 < (x0.size : Int) then (if 0 ≤ x3 then (if (bt x0 x3) < 33 then (some false) else (if (bt x0 x3) > 126 then (some false) else (tipstaffref01_Word.l0 k x0 (wrap64 (x3 + 1))))) else (none)) else (some (decide ((x0.size : Int) > 0)))
def tipstaffref01_Word.f (k : Nat) (a0 : ByteArray) : Option (Bool) := tipstaffref01_Word.l0 k a0 0
theorem tipstaffref01_Word.mono_l : ∀ k, (∀ y0 y1, LeO (tipstaffref01_Word.l0 k y0 y1) (tipstaffref01_Word.l0 (k + 1) y0 y1))
  | 0 => fun _ _ r h => by simp [tipstaffref01_Word.l0] at h
  | k + 1 => by
    have ih0 := tipstaffref01_Word.mono_l k
    · intro y0 y1
      unfold tipstaffref01_Word.l0
      repeat' first
      | (with_reducible exact ih0 _ _)
      | (with_reducible exact LeO.refl _)
      | (with_reducible exact LeO.none _)
      | (with_reducible refine LeO.ite ?_ ?_)
      | (with_reducible refine LeO.bind ?_ (fun _ => ?_))
      | exact ih0 _ _
      | exact LeO.none _
      | refine LeO.ite ?_ ?_
      | refine LeO.bind ?_ (fun _ => ?_)
theorem tipstaffref01_Word.mono : ∀ a0 k, LeO (tipstaffref01_Word.f k a0) (tipstaffref01_Word.f (k + 1) a0) := by
  intro a0 k
  have ih0 := tipstaffref01_Word.mono_l k
  unfold tipstaffref01_Word.f
  repeat' first
      | (with_reducible exact ih0 _ _)
      | (with_reducible exact LeO.refl _)
      | (with_reducible exact LeO.none _)
      | (with_reducible refine LeO.ite ?_ ?_)
      | (with_reducible refine LeO.bind ?_ (fun _ => ?_))
      | exact ih0 _ _
      | exact LeO.none _
      | refine LeO.ite ?_ ?_
      | refine LeO.bind ?_ (fun _ => ?_)
set_option maxHeartbeats 8000000 in
set_option maxRecDepth 100000 in
theorem tipstaffref01_Word.calls (k : Nat) (a0 : ByteArray) (r : Bool) (w : World) (h : tipstaffref01_Word.f k a0 = some r) :
    Calls Tryd.prog 20 #[.string a0] w fun e w' => e = .returned (.bool r) ∧ Drawn0 w w' := by
  have H : (tipstaffref01_Word.l0 k a0 0) = some r := h
  clear h
  have H' := Aside0.mk H
  clear H
  go_enter Tryd.func20, Tryd.ntmps20
  go_wp2
  go_loopg [3] k (fun kq v3 w' => ∃ (x3_1 : Int), v3 = .int .i64 x3_1 ∧ Aside0 (tipstaffref01_Word.l0 kq a0 x3_1 = some r) ∧ Aside0 (kq ≤ k) ∧ Drawn0 w w')
  case atStart => exact ⟨(0), (by first | rfl | (simp; done) | (simp [*]; done)), H', ⟨Nat.le_refl _⟩, by repeat (first | exact Drawn0.refl _ | apply Drawn0.step)⟩
  case round =>
    clear H'
    obtain ⟨x3_1, rfl, HA, HK1, ⟨m1, rfl⟩⟩ := hrel
    cases gk with
    | zero => exact absurd HA.out (by simp [tipstaffref01_Word.l0])
    | succ k1 =>
      have H := HA.out
      clear HA
      simp only [tipstaffref01_Word.l0] at H
      by_cases c2 : x3_1 < (a0.size : Int)
      · rw [if_pos c2] at H
        have c2b0 : decide (x3_1 < (a0.size : Int)) = true := decide_eq_true c2
        clear c2
        by_cases c3 : 0 ≤ x3_1
        · rw [if_pos c3] at H
          have c3b0 : decide (0 ≤ x3_1) = true := decide_eq_true c3
          clear c3
          by_cases c5 : (bt a0 x3_1) < 33
          · rw [if_pos c5] at H
            have c5b0 : decide ((bt a0 x3_1) < 33) = true := decide_eq_true c5
            clear c5
            obtain rfl := Option.some.inj H
            have p4 : 0 ≤ (x3_1 : Int) := of_decide_eq_true (by first | (with_reducible assumption) | assumption)
            have q4 : x3_1 < (a0.size : Int) := of_decide_eq_true (by first | (with_reducible assumption) | assumption)
            have hx4 := bt_at a0 x3_1
            replace p4 := eq_true p4
            replace q4 := eq_true q4
            go_wp2
            all_goals go_ret
            all_goals exact ⟨by first | rfl | (simp; done) | (simp [*]; done), by repeat (first | exact Drawn0.refl _ | apply Drawn0.step)⟩
          · rw [if_neg c5] at H
            have c5b0 : decide ((bt a0 x3_1) < 33) = false := decide_eq_false c5
            clear c5
            by_cases c7 : (bt a0 x3_1) > 126
            · rw [if_pos c7] at H
              have c7b0 : decide (126 < (bt a0 x3_1)) = true := decide_eq_true c7
              clear c7
              obtain rfl := Option.some.inj H
              have p4 : 0 ≤ (x3_1 : Int) := of_decide_eq_true (by first | (with_reducible assumption) | assumption)
              have q4 : x3_1 < (a0.size : Int) := of_decide_eq_true (by first | (with_reducible assumption) | assumption)
              have hx4 := bt_at a0 x3_1
              replace p4 := eq_true p4
              replace q4 := eq_true q4
              have p6 : 0 ≤ (x3_1 : Int) := of_decide_eq_true (by first | (with_reducible assumption) | assumption)
              have q6 : x3_1 < (a0.size : Int) := of_decide_eq_true (by first | (with_reducible assumption) | assumption)
              have hx6 := bt_at a0 x3_1
              replace p6 := eq_true p6
              replace q6 := eq_true q6
              go_wp2
              all_goals go_ret
              all_goals exact ⟨by first | rfl | (simp; done) | (simp [*]; done), by repeat (first | exact Drawn0.refl _ | apply Drawn0.step)⟩
            · rw [if_neg c7] at H
              have c7b0 : decide (126 < (bt a0 x3_1)) = false := decide_eq_false c7
              clear c7
              have H' := Aside0.mk H
              clear H
              have p4 : 0 ≤ (x3_1 : Int) := of_decide_eq_true (by first | (with_reducible assumption) | assumption)
              have q4 : x3_1 < (a0.size : Int) := of_decide_eq_true (by first | (with_reducible assumption) | assumption)
              have hx4 := bt_at a0 x3_1
              replace p4 := eq_true p4
              replace q4 := eq_true q4
              have p6 : 0 ≤ (x3_1 : Int) := of_decide_eq_true (by first | (with_reducible assumption) | assumption)
              have q6 : x3_1 < (a0.size : Int) := of_decide_eq_true (by first | (with_reducible assumption) | assumption)
              have hx6 := bt_at a0 x3_1
              replace p6 := eq_true p6
              replace q6 := eq_true q6
              go_wp2
              go_roundg k1
              case measure => have := HK1.out; omega
              case rel => exact ⟨(wrap64 (x3_1 + 1)), (by first | rfl | (simp; done) | (simp [*]; done)), H', ⟨by have := HK1.out; omega⟩, by repeat (first | exact Drawn0.refl _ | apply Drawn0.step)⟩
        · rw [if_neg c3] at H
          exact absurd H (by simp)
      · rw [if_neg c2] at H
        have c2b0 : decide (x3_1 < (a0.size : Int)) = false := decide_eq_false c2
        clear c2
        obtain rfl := Option.some.inj H
        go_wp2
        all_goals go_ret
        all_goals exact ⟨by first | rfl | (simp; done) | (simp [*]; done), by repeat (first | exact Drawn0.refl _ | apply Drawn0.step)⟩

/-- THE ONE PURE STATEMENT of tipstaffref01_Word: yours. -/
def tipstaffref01_Word.Pure : Prop := ∀ (a0 : ByteArray), a0.size ≤ 140737488351232 → ∃ k, tipstaffref01_Word.f k a0 = some true
theorem tipstaffref01_Word.walk (P : tipstaffref01_Word.Pure) (a0 : ByteArray) (w : World) (w0 : a0.size ≤ 140737488351232) :
    Calls Tryd.prog 20 #[.string a0] w fun e w' => e = .returned (.bool true) ∧ Below w.heap.size w w' := by
  obtain ⟨k, h⟩ := P a0 w0
  refine (tipstaffref01_Word.calls k a0 true w h).mono ?_
  rintro e w' ⟨rfl, hd⟩
  exact ⟨rfl, hd.below⟩

end Go.Proofs.YtencimfeipglaaaDoor.X

namespace Go.Proofs.YtencimfeipglaaaDoor.X
open Go.RowKit Go.Proofs.YtencimfeipglaaaDoorW.PrintWords Go.Proofs.YtencimfeipglaaaDoorW.PrintLast Go.Proofs.YtencimfeipglaaaDoorW.PrintMore
attribute [local go_sem] binOp_str_gtr binOp_str_leq binOp_str_geq max2_int min2_int max_two min_two max_three min_three max_four min_four   -- for this text's walks alone
set_option linter.unusedVariables false
set_option linter.unusedSimpArgs false

/-! ### tipstaffref17_pattern: function 42 -/
def tipstaffref17_pattern.f (k : Nat) (a0 : Int) (a1 : ByteArray) (a2 : Bool) (a3 : Bool) : Option (Int × ByteArray × Bool × Bool × Int × Bool) := (tipstaffref01_Word.f k a1).bind fun t216 => (if t216 = true then (some (a0, a1, a2, a3, 0, true)) else (some (0, (⟨#[]⟩ : ByteArray), false, false, 0, false)))
theorem tipstaffref17_pattern.mono : ∀ a0 a1 a2 a3 k, LeO (tipstaffref17_pattern.f k a0 a1 a2 a3) (tipstaffref17_pattern.f (k + 1) a0 a1 a2 a3) := by
  intro a0 a1 a2 a3 k
  unfold tipstaffref17_pattern.f
  repeat' first
      | (with_reducible exact tipstaffref01_Word.mono _ _)
      | (with_reducible exact LeO.refl _)
      | (with_reducible exact LeO.none _)
      | (with_reducible refine LeO.ite ?_ ?_)
      | (with_reducible refine LeO.bind ?_ (fun _ => ?_))
      | exact tipstaffref01_Word.mono _ _
      | exact LeO.none _
      | refine LeO.ite ?_ ?_
      | refine LeO.bind ?_ (fun _ => ?_)
set_option maxHeartbeats 8000000 in
set_option maxRecDepth 100000 in
theorem tipstaffref17_pattern.calls (k : Nat) (a0 : Int) (a1 : ByteArray) (a2 : Bool) (a3 : Bool) (r1 : Int) (r2 : ByteArray) (r3 : Bool) (r4 : Bool) (r5 : Int) (r6 : Bool) (w : World) (h : tipstaffref17_pattern.f k a0 a1 a2 a3 = some (r1, r2, r3, r4, r5, r6)) :
    Calls Tryd.prog 42 #[.int .u8 a0, .string a1, .bool a2, .bool a3] w fun e w' => e = .returned (.tuple #[.agg #[.int .u8 r1, .string r2, .bool r3, .bool r4, .int .u64 r5], .bool r6]) ∧ Below w.heap.size w w' := by
  have hu25 := Tryd.underlying25
  have HB := Aside0.mk (Below.refl w.heap.size w)
  have H : ((tipstaffref01_Word.f k a1).bind fun t216 => (if t216 = true then (some (a0, a1, a2, a3, 0, true)) else (some (0, (⟨#[]⟩ : ByteArray), false, false, 0, false)))) = some (r1, r2, r3, r4, r5, r6) := h
  clear h
  replace H := Option.bind_eq_some_iff.mp H
  obtain ⟨t216, A50, H⟩ := H
  replace H : (if t216 = true then (some (a0, a1, a2, a3, 0, true)) else (some (0, (⟨#[]⟩ : ByteArray), false, false, 0, false))) = some (r1, r2, r3, r4, r5, r6) := H
  have A5 := Aside0.mk A50
  clear A50
  by_cases c6 : t216 = true
  · subst c6
    have H1 : (some (a0, a1, a2, a3, 0, true)) = some (r1, r2, r3, r4, r5, r6) := by rw [if_pos rfl] at H; exact H
    clear H
    have H := H1
    clear H1
    simp only [Option.some.injEq, Prod.mk.injEq] at H
    obtain ⟨rfl, rfl, rfl, rfl, rfl, rfl⟩ := H
    go_enter Tryd.func42, Tryd.ntmps42
    go_wp2_with (first | ((with_reducible refine gate_dst (N := 8) rfl ?_); refine box_event ?hg (N := 8) ?hd (cs := #[.int .u8 0, .string (⟨#[]⟩ : ByteArray), .bool false, .bool false, .int .u64 0]) (t := 25) ?hr ?_; (case hd => rfl); (case hg => rfl); (case hr => first | (go_simp; done) | (go_simp; rfl)); intro gb215 hg w7 hbox hb; have n0_ := Aside0.mk (below_step (by repeat (first | (with_reducible first | exact HB.out | apply below_alloc | apply pw_below_drewN | apply below_drew1) | exact HB.out)) hb); have n1_ := Aside0.mk (hbox); have n2_ := Aside0.mk ((by rw [hg]; exact (below_size (by repeat (first | (with_reducible first | exact HB.out | apply below_alloc | apply pw_below_drewN | apply below_drew1) | exact HB.out))) : w.heap.size ≤ gb215)); have n3_ := Aside0.mk ((by rw [hg]; exact (below_size (by repeat (first | (with_reducible first | exact HB.out | apply below_alloc | apply pw_below_drewN | apply below_drew1) | exact HB.out))) : w.heap.size ≤ gb215)); clear HB; have HB := n0_; have BK215 := n1_; have GW215 := n2_; have GE215 := n3_; clear n0_ n1_ n2_ n3_; clear hb hbox hg) | ((with_reducible refine gate_callee (f := 20) rfl ?_); refine goesL_ (some 11) rfl rfl Tryd.func20 (by kernel_rfl) rfl #[.string a1] rfl (by (try simp only [List.map_toArray, List.map_cons, List.map_nil]); first | done | rfl | (simp only [List.length_drop, List.length_take]; rfl)) ?_; (with_reducible refine (tipstaffref01_Word.calls k a1 true _ A5.out).mono ?_); rintro e w' ⟨rfl, ⟨nd, rfl⟩⟩; refine ⟨_, rfl, ?_⟩; (try (rw [drewN_self w7]; generalize hq_ : World.drewN w7 _ = w7; have n0_ : Aside0 (w7.heap[gb215]? = some (.cells #[.int .u8 0, .string (⟨#[]⟩ : ByteArray), .bool false, .bool false, .int .u64 0] 25 (0, 0))) := ⟨by rw [← hq_]; exact (by (with_reducible repeat (first | refine blk_drewN ?_ _ | refine blk_drew ?_ | refine blk_alloc ?_ _)); exact BK215.out)⟩; have n1_ : Aside0 (Below w.heap.size w w7) := ⟨by rw [← hq_]; exact (by repeat (first | (with_reducible first | exact HB.out | apply below_alloc | apply pw_below_drewN | apply below_drew1 | refine below_set ?_ GE215.out) | exact HB.out))⟩; clear BK215 HB hq_; have BK215 := n0_; have HB := n1_; clear n0_ n1_)); have hcz8_0 : w7.cell? ⟨gb215, 0, none⟩ = some (.int .u8 0) := (blk_cell BK215.out 0).trans rfl; have hcz8_1 : w7.cell? ⟨gb215, 1, none⟩ = some (.string (⟨#[]⟩ : ByteArray)) := (blk_cell BK215.out 1).trans rfl; have hcz8_2 : w7.cell? ⟨gb215, 2, none⟩ = some (.bool false) := (blk_cell BK215.out 2).trans rfl; have hcz8_3 : w7.cell? ⟨gb215, 3, none⟩ = some (.bool false) := (blk_cell BK215.out 3).trans rfl; have hcz8_4 : w7.cell? ⟨gb215, 4, none⟩ = some (.int .u64 0) := (blk_cell BK215.out 4).trans rfl; have hfz8_0 := blk_frozen BK215.out 0; have hfz8_1 := blk_frozen BK215.out 1; have hfz8_2 := blk_frozen BK215.out 2; have hfz8_3 := blk_frozen BK215.out 3; have hfz8_4 := blk_frozen BK215.out 4))
    refine bodyPost_ret (results_ct rfl _ _ gb215 25 #[.int .u8 a0, .string a1, .bool a2, .bool a3, .int .u64 0] (0, 0) _ rfl (by (with_reducible repeat (first | refine blk_drewN ?_ _ | refine blk_drew ?_ | refine blk_alloc ?_ _)); refine blk_put (cs := #[.int .u8 a0, .string a1, .bool a2, .bool a3, .int .u64 0]) ?_ 4 _ rfl; (with_reducible repeat (first | refine blk_drewN ?_ _ | refine blk_drew ?_ | refine blk_alloc ?_ _)); refine blk_put (cs := #[.int .u8 a0, .string a1, .bool a2, .bool false, .int .u64 0]) ?_ 3 _ rfl; (with_reducible repeat (first | refine blk_drewN ?_ _ | refine blk_drew ?_ | refine blk_alloc ?_ _)); refine blk_put (cs := #[.int .u8 a0, .string a1, .bool false, .bool false, .int .u64 0]) ?_ 2 _ rfl; (with_reducible repeat (first | refine blk_drewN ?_ _ | refine blk_drew ?_ | refine blk_alloc ?_ _)); refine blk_put (cs := #[.int .u8 a0, .string (⟨#[]⟩ : ByteArray), .bool false, .bool false, .int .u64 0]) ?_ 1 _ rfl; (with_reducible repeat (first | refine blk_drewN ?_ _ | refine blk_drew ?_ | refine blk_alloc ?_ _)); refine blk_put (cs := #[.int .u8 0, .string (⟨#[]⟩ : ByteArray), .bool false, .bool false, .int .u64 0]) ?_ 0 _ rfl; (with_reducible repeat (first | refine blk_drewN ?_ _ | refine blk_drew ?_ | refine blk_alloc ?_ _)); exact BK215.out) Tryd.underlying25 rfl (by kernel_rfl)) rfl ?_
    all_goals exact ⟨by first | rfl | (simp [errW_none, errW_some] <;> rfl) | (simp [*, errW_none, errW_some] <;> rfl), by repeat (first | (with_reducible first | exact HB.out | apply below_alloc | apply pw_below_drewN | apply below_drew1 | refine below_set ?_ GE215.out) | exact HB.out)⟩
  · replace c6 := Bool.eq_false_iff.mpr c6
    subst c6
    have H1 : (some (0, (⟨#[]⟩ : ByteArray), false, false, 0, false)) = some (r1, r2, r3, r4, r5, r6) := by rw [if_neg (show ¬ (false = true) by decide)] at H; exact H
    clear H
    have H := H1
    clear H1
    simp only [Option.some.injEq, Prod.mk.injEq] at H
    obtain ⟨rfl, rfl, rfl, rfl, rfl, rfl⟩ := H
    go_enter Tryd.func42, Tryd.ntmps42
    go_wp2_with (first | ((with_reducible refine gate_dst (N := 8) rfl ?_); refine box_event ?hg (N := 8) ?hd (cs := #[.int .u8 0, .string (⟨#[]⟩ : ByteArray), .bool false, .bool false, .int .u64 0]) (t := 25) ?hr ?_; (case hd => rfl); (case hg => rfl); (case hr => first | (go_simp; done) | (go_simp; rfl)); intro gb215 hg w9 hbox hb; have n0_ := Aside0.mk (below_step (by repeat (first | (with_reducible first | exact HB.out | apply below_alloc | apply pw_below_drewN | apply below_drew1) | exact HB.out)) hb); have n1_ := Aside0.mk (hbox); have n2_ := Aside0.mk ((by rw [hg]; exact (below_size (by repeat (first | (with_reducible first | exact HB.out | apply below_alloc | apply pw_below_drewN | apply below_drew1) | exact HB.out))) : w.heap.size ≤ gb215)); have n3_ := Aside0.mk ((by rw [hg]; exact (below_size (by repeat (first | (with_reducible first | exact HB.out | apply below_alloc | apply pw_below_drewN | apply below_drew1) | exact HB.out))) : w.heap.size ≤ gb215)); clear HB; have HB := n0_; have BK215 := n1_; have GW215 := n2_; have GE215 := n3_; clear n0_ n1_ n2_ n3_; clear hb hbox hg) | ((with_reducible refine gate_callee (f := 20) rfl ?_); refine goesL_ (some 11) rfl rfl Tryd.func20 (by kernel_rfl) rfl #[.string a1] rfl (by (try simp only [List.map_toArray, List.map_cons, List.map_nil]); first | done | rfl | (simp only [List.length_drop, List.length_take]; rfl)) ?_; (with_reducible refine (tipstaffref01_Word.calls k a1 false _ A5.out).mono ?_); rintro e w' ⟨rfl, ⟨nd, rfl⟩⟩; refine ⟨_, rfl, ?_⟩; (try (rw [drewN_self w9]; generalize hq_ : World.drewN w9 _ = w9; have n0_ : Aside0 (w9.heap[gb215]? = some (.cells #[.int .u8 0, .string (⟨#[]⟩ : ByteArray), .bool false, .bool false, .int .u64 0] 25 (0, 0))) := ⟨by rw [← hq_]; exact (by (with_reducible repeat (first | refine blk_drewN ?_ _ | refine blk_drew ?_ | refine blk_alloc ?_ _)); exact BK215.out)⟩; have n1_ : Aside0 (Below w.heap.size w w9) := ⟨by rw [← hq_]; exact (by repeat (first | (with_reducible first | exact HB.out | apply below_alloc | apply pw_below_drewN | apply below_drew1 | refine below_set ?_ GE215.out) | exact HB.out))⟩; clear BK215 HB hq_; have BK215 := n0_; have HB := n1_; clear n0_ n1_)); have hcz10_0 : w9.cell? ⟨gb215, 0, none⟩ = some (.int .u8 0) := (blk_cell BK215.out 0).trans rfl; have hcz10_1 : w9.cell? ⟨gb215, 1, none⟩ = some (.string (⟨#[]⟩ : ByteArray)) := (blk_cell BK215.out 1).trans rfl; have hcz10_2 : w9.cell? ⟨gb215, 2, none⟩ = some (.bool false) := (blk_cell BK215.out 2).trans rfl; have hcz10_3 : w9.cell? ⟨gb215, 3, none⟩ = some (.bool false) := (blk_cell BK215.out 3).trans rfl; have hcz10_4 : w9.cell? ⟨gb215, 4, none⟩ = some (.int .u64 0) := (blk_cell BK215.out 4).trans rfl; have hfz10_0 := blk_frozen BK215.out 0; have hfz10_1 := blk_frozen BK215.out 1; have hfz10_2 := blk_frozen BK215.out 2; have hfz10_3 := blk_frozen BK215.out 3; have hfz10_4 := blk_frozen BK215.out 4))
    refine bodyPost_ret (results_ct rfl _ _ gb215 25 #[.int .u8 0, .string (⟨#[]⟩ : ByteArray), .bool false, .bool false, .int .u64 0] (0, 0) _ rfl (by (with_reducible repeat (first | refine blk_drewN ?_ _ | refine blk_drew ?_ | refine blk_alloc ?_ _)); refine blk_put (cs := #[.int .u8 0, .string (⟨#[]⟩ : ByteArray), .bool false, .bool false, .int .u64 0]) ?_ 4 _ rfl; (with_reducible repeat (first | refine blk_drewN ?_ _ | refine blk_drew ?_ | refine blk_alloc ?_ _)); refine blk_put (cs := #[.int .u8 0, .string (⟨#[]⟩ : ByteArray), .bool false, .bool false, .int .u64 0]) ?_ 3 _ rfl; (with_reducible repeat (first | refine blk_drewN ?_ _ | refine blk_drew ?_ | refine blk_alloc ?_ _)); refine blk_put (cs := #[.int .u8 0, .string (⟨#[]⟩ : ByteArray), .bool false, .bool false, .int .u64 0]) ?_ 2 _ rfl; (with_reducible repeat (first | refine blk_drewN ?_ _ | refine blk_drew ?_ | refine blk_alloc ?_ _)); refine blk_put (cs := #[.int .u8 0, .string (⟨#[]⟩ : ByteArray), .bool false, .bool false, .int .u64 0]) ?_ 1 _ rfl; (with_reducible repeat (first | refine blk_drewN ?_ _ | refine blk_drew ?_ | refine blk_alloc ?_ _)); refine blk_put (cs := #[.int .u8 0, .string (⟨#[]⟩ : ByteArray), .bool false, .bool false, .int .u64 0]) ?_ 0 _ rfl; (with_reducible repeat (first | refine blk_drewN ?_ _ | refine blk_drew ?_ | refine blk_alloc ?_ _)); exact BK215.out) Tryd.underlying25 rfl (by kernel_rfl)) rfl ?_
    all_goals exact ⟨by first | rfl | (simp [errW_none, errW_some] <;> rfl) | (simp [*, errW_none, errW_some] <;> rfl), by repeat (first | (with_reducible first | exact HB.out | apply below_alloc | apply pw_below_drewN | apply below_drew1 | refine below_set ?_ GE215.out) | exact HB.out)⟩

end Go.Proofs.YtencimfeipglaaaDoor.X

