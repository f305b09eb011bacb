-- Written by a program of the session (wip/xprint.py): the kit's printer, beside contracts of the session's own.
import Derived.Test.YtencimfeipglaaaDoorXx0
import Derived.Test.YtencimfeipglaaaDoorXx10
import Derived.Test.YtencimfeipglaaaDoorXx3
import Derived.Test.YtencimfeipglaaaDoorStrOrd
namespace Go.Proofs.YtencimfeipglaaaDoor.X
open Go.RowKit Go.Proofs.YtencimfeipglaaaDoorW.PrintWords Go.Proofs.YtencimfeipglaaaDoorW.PrintLast Go.Proofs.YtencimfeipglaaaDoorW.PrintMore
attribute [local go_sem] binOp_str_gtr binOp_str_leq binOp_str_geq max2_int min2_int max_two min_two max_three min_three max_four min_four   -- for this text's walks alone
set_option linter.unusedVariables false
set_option linter.unusedSimpArgs false

/-! ### tipstaffref17_Parse: function 16 -/
mutual
def tipstaffref17_Parse.l0 : Nat → ByteArray → List ByteArray → Int → Option (Int × ByteArray × Bool × Bool × Int × Bool)
  | 0, _, _, _ => none
  | k + 1, x4, x7, x8 => if x8 < (x7.length : Int) then (if 0 ≤ x8 then ((tipstaffref17_begins.f x4 (rdOf ByteArray.empty x7 x8)).bind fun bt230 => (if bt230.2 = true then (if (rdOf ByteArray.empty x7 x8).toList = ([62] : List UInt8) then (some (5, bt230.1, false, false, 0, true)) else (if (rdOf ByteArray.empty x7 x8).toList = ([35] : List UInt8) then (tipstaffref17_Parse.j1 k x7 x8 bt230.1 (rdOf ByteArray.empty x7 x8) ((rdOf ByteArray.empty x7 x8).toList == ([35] : List UInt8))) else (tipstaffref17_Parse.j1 k x7 x8 bt230.1 (rdOf ByteArray.empty x7 x8) ((rdOf ByteArray.empty x7 x8).toList == ([33] : List UInt8))))) else (tipstaffref17_Parse.l0 k x4 x7 (wrap64 (x8 + 1))))) else (none)) else (some (0, (⟨#[]⟩ : ByteArray), false, false, 0, false))
def tipstaffref17_Parse.j1 : Nat → List ByteArray → Int → ByteArray → ByteArray → Bool → Option (Int × ByteArray × Bool × Bool × Int × Bool)
  | 0, _, _, _, _, _ => none
  | k + 1, x7, x8, x9, x44, x49 => if x49 = true then ((tipstaffref03_Right.f k x9).bind fun t233 => (if t233 = true then (if 0 ≤ x8 then (if x8 < (x7.length : Int) then (if (rdOf ByteArray.empty x7 x8).toList = ([35] : List UInt8) then (some (6, x9, false, false, 0, true)) else (some (7, x9, false, false, 0, true))) else (none)) else (none)) else (some (0, (⟨#[]⟩ : ByteArray), false, false, 0, false)))) else (if x44.toList = ([43] : List UInt8) then (tipstaffref17_Parse.j2 k x7 x8 x9 x44 (x44.toList == ([43] : List UInt8))) else (tipstaffref17_Parse.j2 k x7 x8 x9 x44 (x44.toList == ([45] : List UInt8))))
def tipstaffref17_Parse.j2 : Nat → List ByteArray → Int → ByteArray → ByteArray → Bool → Option (Int × ByteArray × Bool × Bool × Int × Bool)
  | 0, _, _, _, _, _ => none
  | k + 1, x7, x8, x9, x44, x66 => if x66 = true then ((tipstaffref17_mask.f k x9).bind fun bt235 => (if bt235.2 = true then (if 0 ≤ x8 then (if x8 < (x7.length : Int) then (if (rdOf ByteArray.empty x7 x8).toList = ([43] : List UInt8) then (some (8, (⟨#[]⟩ : ByteArray), false, false, bt235.1, true)) else (some (9, (⟨#[]⟩ : ByteArray), false, false, bt235.1, true))) else (none)) else (none)) else (some (0, (⟨#[]⟩ : ByteArray), false, false, 0, false)))) else (if x44.toList = ([38] : List UInt8) then ((tipstaffref17_pattern.f k 12 x9 false false).bind fun bt238 => (some (bt238.1, bt238.2.1, bt238.2.2.1, bt238.2.2.2.1, bt238.2.2.2.2.1, bt238.2.2.2.2.2))) else (if 0 ≤ x8 then (if x8 < (x7.length : Int) then ((tipstaffref17_pattern.f k 10 x9 ((rdOf ByteArray.empty x7 x8).toList != ([37, 87, 126] : List UInt8)) ((rdOf ByteArray.empty x7 x8).toList != ([37, 82, 126] : List UInt8))).bind fun bt246 => (some (bt246.1, bt246.2.1, bt246.2.2.1, bt246.2.2.2.1, bt246.2.2.2.2.1, bt246.2.2.2.2.2))) else (none)) else (none)))
end
def tipstaffref17_Parse.f (k : Nat) (a0 : ByteArray) : Option (Int × ByteArray × Bool × Bool × Int × Bool) := (tipstaffref17_other.f a0).bind fun t218 => ((tipstaffref17_plain.f k t218).bind fun bt219 => (if bt219.2.2.2.2.2 = true then (some (bt219.1, bt219.2.1, bt219.2.2.1, bt219.2.2.2.1, bt219.2.2.2.2.1, true)) else (tipstaffref17_Parse.l0 k t218 (([(⟨#[62]⟩ : ByteArray), (⟨#[35]⟩ : ByteArray), (⟨#[33]⟩ : ByteArray), (⟨#[43]⟩ : ByteArray), (⟨#[45]⟩ : ByteArray), (⟨#[126]⟩ : ByteArray), (⟨#[37, 82, 126]⟩ : ByteArray), (⟨#[37, 87, 126]⟩ : ByteArray), (⟨#[37, 82, 87, 126]⟩ : ByteArray), (⟨#[38]⟩ : ByteArray)] : List ByteArray)) 0)))
theorem tipstaffref17_Parse.mono_l : ∀ k, (∀ y0 y1 y2, LeO (tipstaffref17_Parse.l0 k y0 y1 y2) (tipstaffref17_Parse.l0 (k + 1) y0 y1 y2)) ∧ (∀ y0 y1 y2 y3 y4, LeO (tipstaffref17_Parse.j1 k y0 y1 y2 y3 y4) (tipstaffref17_Parse.j1 (k + 1) y0 y1 y2 y3 y4)) ∧ (∀ y0 y1 y2 y3 y4, LeO (tipstaffref17_Parse.j2 k y0 y1 y2 y3 y4) (tipstaffref17_Parse.j2 (k + 1) y0 y1 y2 y3 y4))
  | 0 => ⟨fun _ _ _ r h => by simp [tipstaffref17_Parse.l0] at h, fun _ _ _ _ _ r h => by simp [tipstaffref17_Parse.j1] at h, fun _ _ _ _ _ r h => by simp [tipstaffref17_Parse.j2] at h⟩
  | k + 1 => by
    obtain ⟨ih0, ih1, ih2⟩ := tipstaffref17_Parse.mono_l k
    refine ⟨?_, ?_, ?_⟩
    · intro y0 y1 y2
      unfold tipstaffref17_Parse.l0
      repeat' first
      | (with_reducible exact ih0 _ _ _)
      | (with_reducible exact ih1 _ _ _ _ _)
      | (with_reducible exact ih2 _ _ _ _ _)
      | (with_reducible exact tipstaffref03_Right.mono _ _)
      | (with_reducible exact tipstaffref17_mask.mono _ _)
      | (with_reducible exact tipstaffref17_pattern.mono _ _ _ _ _)
      | (with_reducible exact tipstaffref17_plain.mono _ _)
      | (with_reducible exact LeO.refl _)
      | (with_reducible exact LeO.none _)
      | (with_reducible refine LeO.ite ?_ ?_)
      | (with_reducible refine LeO.bind ?_ (fun _ => ?_))
      | exact ih0 _ _ _
      | exact ih1 _ _ _ _ _
      | exact ih2 _ _ _ _ _
      | exact tipstaffref03_Right.mono _ _
      | exact tipstaffref17_mask.mono _ _
      | exact tipstaffref17_pattern.mono _ _ _ _ _
      | exact tipstaffref17_plain.mono _ _
      | exact LeO.none _
      | refine LeO.ite ?_ ?_
      | refine LeO.bind ?_ (fun _ => ?_)
    · intro y0 y1 y2 y3 y4
      unfold tipstaffref17_Parse.j1
      repeat' first
      | (with_reducible exact ih0 _ _ _)
      | (with_reducible exact ih1 _ _ _ _ _)
      | (with_reducible exact ih2 _ _ _ _ _)
      | (with_reducible exact tipstaffref03_Right.mono _ _)
      | (with_reducible exact tipstaffref17_mask.mono _ _)
      | (with_reducible exact tipstaffref17_pattern.mono _ _ _ _ _)
      | (with_reducible exact tipstaffref17_plain.mono _ _)
      | (with_reducible exact LeO.refl _)
      | (with_reducible exact LeO.none _)
      | (with_reducible refine LeO.ite ?_ ?_)
      | (with_reducible refine LeO.bind ?_ (fun _ => ?_))
      | exact ih0 _ _ _
      | exact ih1 _ _ _ _ _
      | exact ih2 _ _ _ _ _
      | exact tipstaffref03_Right.mono _ _
      | exact tipstaffref17_mask.mono _ _
      | exact tipstaffref17_pattern.mono _ _ _ _ _
      | exact tipstaffref17_plain.mono _ _
      | exact LeO.none _
      | refine LeO.ite ?_ ?_
      | refine LeO.bind ?_ (fun _ => ?_)
    · intro y0 y1 y2 y3 y4
      unfold tipstaffref17_Parse.j2
      repeat' first
      | (with_reducible exact ih0 _ _ _)
      | (with_reducible exact ih1 _ _ _ _ _)
      | (with_reducible exact ih2 _ _ _ _ _)
      | (with_reducible exact tipstaffref03_Right.mono _ _)
      | (with_reducible exact tipstaffref17_mask.mono _ _)
      | (with_reducible exact tipstaffref17_pattern.mono _ _ _ _ _)
      | (with_reducible exact tipstaffref17_plain.mono _ _)
      | (with_reducible exact LeO.refl _)
      | (with_reducible exact LeO.none _)
      | (with_reducible refine LeO.ite ?_ ?_)
      | (with_reducible refine LeO.bind ?_ (fun _ => ?_))
      | exact ih0 _ _ _
      | exact ih1 _ _ _ _ _
      | exact ih2 _ _ _ _ _
      | exact tipstaffref03_Right.mono _ _
      | exact tipstaffref17_mask.mono _ _
      | exact tipstaffref17_pattern.mono _ _ _ _ _
      | exact tipstaffref17_plain.mono _ _
      | exact LeO.none _
      | refine LeO.ite ?_ ?_
      | refine LeO.bind ?_ (fun _ => ?_)
theorem tipstaffref17_Parse.mono : ∀ a0 k, LeO (tipstaffref17_Parse.f k a0) (tipstaffref17_Parse.f (k + 1) a0) := by
  intro a0 k
  obtain ⟨ih0, ih1, ih2⟩ := tipstaffref17_Parse.mono_l k
  unfold tipstaffref17_Parse.f
  repeat' first
      | (with_reducible exact ih0 _ _ _)
      | (with_reducible exact ih1 _ _ _ _ _)
      | (with_reducible exact ih2 _ _ _ _ _)
      | (with_reducible exact tipstaffref03_Right.mono _ _)
      | (with_reducible exact tipstaffref17_mask.mono _ _)
      | (with_reducible exact tipstaffref17_pattern.mono _ _ _ _ _)
      | (with_reducible exact tipstaffref17_plain.mono _ _)
      | (with_reducible exact LeO.refl _)
      | (with_reducible exact LeO.none _)
      | (with_reducible refine LeO.ite ?_ ?_)
      | (with_reducible refine LeO.bind ?_ (fun _ => ?_))
      | exact ih0 _ _ _
      | exact ih1 _ _ _ _ _
      | exact ih2 _ _ _ _ _
      | exact tipstaffref03_Right.mono _ _
      | exact tipstaffref17_mask.mono _ _
      | exact tipstaffref17_pattern.mono _ _ _ _ _
      | exact tipstaffref17_plain.mono _ _
      | exact LeO.none _
      | refine LeO.ite ?_ ?_
      | refine LeO.bind ?_ (fun _ => ?_)
def tipstaffref17_Parse.T32 : Bool × List (List Nat × List Nat) := (true, [([], []), ([], []), ([], []), ([1, 2], [1, 2]), ([3], [3]), ([4], [4]), ([], []), ([], []), ([6, 7], [6, 7]), ([8], [8]), ([9], [9]), ([0, 5, 10], [0, 5, 10]), ([11], [11]), ([11], [11]), ([12, 11, 0, 1, 2, 3, 4, 5, 6, 7, 8, 9, 10, 11, 12, 13], [12]), ([13, 14, 0, 1, 2, 3, 4, 5, 6, 7, 8, 9, 10, 11, 12, 13, 14], [13])])
def tipstaffref17_Parse.B32 : List Nat := [0, 0, 0, 6, 14, 30, 0, 0, 192, 448, 960, 2047, 4095, 4095, 16383, 32767]
theorem tipstaffref17_Parse.tab32 : rtab .any (opsOf Tryd.f16 32) = tipstaffref17_Parse.T32 := by kernel_rfl
theorem tipstaffref17_Parse.bits32 : waitsOk tipstaffref17_Parse.T32.2 tipstaffref17_Parse.B32 = true := by kernel_rfl
set_option maxHeartbeats 8000000 in
set_option maxRecDepth 100000 in
theorem tipstaffref17_Parse.calls (k : Nat) (a0 : ByteArray) (r1 : Int) (r2 : ByteArray) (r3 : Bool) (r4 : Bool) (r5 : Int) (r6 : Bool) (w : World) (h : tipstaffref17_Parse.f k a0 = some (r1, r2, r3, r4, r5, r6)) :
    Calls Tryd.prog 16 #[.string a0] w fun e w' => e = .returned (.tuple #[.agg #[.int .u8 r1, .string r2, .bool r3, .bool r4, .int .u64 r5], .bool r6]) ∧ Below w.heap.size w w' := by
  have hu25 := Tryd.underlying25
  have HB := Aside0.mk (Below.refl w.heap.size w)
  have H : ((tipstaffref17_other.f a0).bind fun t218 => ((tipstaffref17_plain.f k t218).bind fun bt219 => (if bt219.2.2.2.2.2 = true then (some (bt219.1, bt219.2.1, bt219.2.2.1, bt219.2.2.2.1, bt219.2.2.2.2.1, true)) else (tipstaffref17_Parse.l0 k t218 (([(⟨#[62]⟩ : ByteArray), (⟨#[35]⟩ : ByteArray), (⟨#[33]⟩ : ByteArray), (⟨#[43]⟩ : ByteArray), (⟨#[45]⟩ : ByteArray), (⟨#[126]⟩ : ByteArray), (⟨#[37, 82, 126]⟩ : ByteArray), (⟨#[37, 87, 126]⟩ : ByteArray), (⟨#[37, 82, 87, 126]⟩ : ByteArray), (⟨#[38]⟩ : ByteArray)] : List ByteArray)) 0)))) = some (r1, r2, r3, r4, r5, r6) := h
  clear h
  replace H := Option.bind_eq_some_iff.mp H
  obtain ⟨t218, A20, H⟩ := H
  replace H : ((tipstaffref17_plain.f k t218).bind fun bt219 => (if bt219.2.2.2.2.2 = true then (some (bt219.1, bt219.2.1, bt219.2.2.1, bt219.2.2.2.1, bt219.2.2.2.2.1, true)) else (tipstaffref17_Parse.l0 k t218 (([(⟨#[62]⟩ : ByteArray), (⟨#[35]⟩ : ByteArray), (⟨#[33]⟩ : ByteArray), (⟨#[43]⟩ : ByteArray), (⟨#[45]⟩ : ByteArray), (⟨#[126]⟩ : ByteArray), (⟨#[37, 82, 126]⟩ : ByteArray), (⟨#[37, 87, 126]⟩ : ByteArray), (⟨#[37, 82, 87, 126]⟩ : ByteArray), (⟨#[38]⟩ : ByteArray)] : List ByteArray)) 0))) = some (r1, r2, r3, r4, r5, r6) := H
  have A2 := Aside0.mk A20
  clear A20
  replace H := Option.bind_eq_some_iff.mp H
  obtain ⟨⟨t219, t220, t221, t222, t223, t224⟩, A30, H⟩ := H
  replace H : (if t224 = true then (some (t219, t220, t221, t222, t223, true)) else (tipstaffref17_Parse.l0 k t218 (([(⟨#[62]⟩ : ByteArray), (⟨#[35]⟩ : ByteArray), (⟨#[33]⟩ : ByteArray), (⟨#[43]⟩ : ByteArray), (⟨#[45]⟩ : ByteArray), (⟨#[126]⟩ : ByteArray), (⟨#[37, 82, 126]⟩ : ByteArray), (⟨#[37, 87, 126]⟩ : ByteArray), (⟨#[37, 82, 87, 126]⟩ : ByteArray), (⟨#[38]⟩ : ByteArray)] : List ByteArray)) 0)) = some (r1, r2, r3, r4, r5, r6) := H
  have A3 := Aside0.mk A30
  clear A30
  by_cases c4 : t224 = true
  · subst c4
    have H1 : (some (t219, t220, t221, t222, t223, true)) = some (r1, r2, r3, r4, r5, r6) := by rw [if_pos rfl] at H; exact H
    clear H
    have H := H1
    clear H1
    simp only [Option.some.injEq, Prod.mk.injEq] at H
    obtain ⟨rfl, rfl, rfl, rfl, rfl, rfl⟩ := H
    go_enter Tryd.func16, Tryd.ntmps16
    go_wp2_with (first | ((with_reducible refine gate_dst (N := 2) rfl ?_); refine box_event ?hg (N := 2) ?hd (cs := #[.int .u8 0, .string (⟨#[]⟩ : ByteArray), .bool false, .bool false, .int .u64 0]) (t := 25) ?hr ?_; (case hd => rfl); (case hg => rfl); (case hr => first | (go_simp; done) | (go_simp; rfl)); intro gb217 hg w5 hbox hb; have n0_ := Aside0.mk (below_step (by repeat (first | (with_reducible first | exact HB.out | apply below_alloc | apply pw_below_drewN | apply below_drew1) | exact HB.out)) hb); have n1_ := Aside0.mk (hbox); have n2_ := Aside0.mk ((by rw [hg]; exact (below_size (by repeat (first | (with_reducible first | exact HB.out | apply below_alloc | apply pw_below_drewN | apply below_drew1) | exact HB.out))) : w.heap.size ≤ gb217)); have n3_ := Aside0.mk ((by rw [hg]; exact (below_size (by repeat (first | (with_reducible first | exact HB.out | apply below_alloc | apply pw_below_drewN | apply below_drew1) | exact HB.out))) : w.heap.size ≤ gb217)); clear HB; have HB := n0_; have BK217 := n1_; have GW217 := n2_; have GE217 := n3_; clear n0_ n1_ n2_ n3_; clear hb hbox hg) | ((with_reducible refine gate_callee (f := 38) rfl ?_); refine goesL_ (some 15) rfl rfl Tryd.func38 (by kernel_rfl) rfl #[.string a0] rfl (by (try simp only [List.map_toArray, List.map_cons, List.map_nil]); first | done | rfl | (simp only [List.length_drop, List.length_take]; rfl)) ?_; (with_reducible refine (tipstaffref17_other.calls a0 t218 _ A2.out).mono ?_); rintro e w' ⟨rfl, ⟨nd, rfl⟩⟩; refine ⟨_, rfl, ?_⟩; (try (rw [drewN_self w5]; generalize hq_ : World.drewN w5 _ = w5; have n0_ : Aside0 (w5.heap[gb217]? = some (.cells #[.int .u8 0, .string (⟨#[]⟩ : ByteArray), .bool false, .bool false, .int .u64 0] 25 (0, 0))) := ⟨by rw [← hq_]; exact (by (with_reducible repeat (first | refine blk_drewN ?_ _ | refine blk_drew ?_ | refine blk_alloc ?_ _)); exact BK217.out)⟩; have n1_ : Aside0 (Below w.heap.size w w5) := ⟨by rw [← hq_]; exact (by repeat (first | (with_reducible first | exact HB.out | apply below_alloc | apply pw_below_drewN | apply below_drew1 | refine below_set ?_ GE217.out) | exact HB.out))⟩; clear BK217 HB hq_; have BK217 := n0_; have HB := n1_; clear n0_ n1_))) | ((with_reducible refine gate_callee (f := 39) rfl ?_); refine goesL_ (some 18) rfl rfl Tryd.func39 (by kernel_rfl) rfl #[.string t218] rfl (by (try simp only [List.map_toArray, List.map_cons, List.map_nil]); first | done | rfl | (simp only [List.length_drop, List.length_take]; rfl)) ?_; (with_reducible refine (tipstaffref17_plain.calls k t218 t219 t220 t221 t222 t223 true _ A3.out).mono ?_); rintro e w6 ⟨rfl, hb⟩; refine ⟨_, rfl, ?_⟩; have n0_ := Aside0.mk (blk_below (g := gb217) (o := .cells #[.int .u8 0, .string (⟨#[]⟩ : ByteArray), .bool false, .bool false, .int .u64 0] 25 (0, 0)) (by (with_reducible repeat (first | refine blk_drewN ?_ _ | refine blk_drew ?_ | refine blk_alloc ?_ _)); exact BK217.out) hb); have n1_ := Aside0.mk (below_step (by repeat (first | (with_reducible first | exact HB.out | apply below_alloc | apply pw_below_drewN | apply below_drew1 | refine below_set ?_ GE217.out) | exact HB.out)) hb); clear BK217; clear HB; have BK217 := n0_; have HB := n1_; clear n0_ n1_; (try clear hb); (try clear hb2); (try clear hk); (try clear hi)) | ((with_reducible refine gate_dst (N := 5) rfl ?_); refine box_event ?hg (N := 5) ?hd (cs := #[.int .u8 0, .string (⟨#[]⟩ : ByteArray), .bool false, .bool false, .int .u64 0]) (t := 25) ?hr ?_; (case hd => rfl); (case hg => rfl); (case hr => first | (go_simp; done) | (go_simp; rfl)); intro gb225 hg w7 hbox hb; have n0_ := Aside0.mk (blk_below (g := gb217) (o := .cells #[.int .u8 0, .string (⟨#[]⟩ : ByteArray), .bool false, .bool false, .int .u64 0] 25 (0, 0)) (by (with_reducible repeat (first | refine blk_drewN ?_ _ | refine blk_drew ?_ | refine blk_alloc ?_ _)); exact BK217.out) hb); have n1_ := Aside0.mk (below_step (by repeat (first | (with_reducible first | exact HB.out | apply below_alloc | apply pw_below_drewN | apply below_drew1 | refine below_set ?_ GE217.out) | exact HB.out)) hb); have n2_ := Aside0.mk (hbox); have n3_ := Aside0.mk ((by rw [hg]; exact (below_size (by repeat (first | (with_reducible first | exact HB.out | apply below_alloc | apply pw_below_drewN | apply below_drew1 | refine below_set ?_ GE217.out) | exact HB.out))) : w.heap.size ≤ gb225)); have n4_ := Aside0.mk ((by rw [hg]; exact (below_size (by repeat (first | (with_reducible first | exact HB.out | apply below_alloc | apply pw_below_drewN | apply below_drew1 | refine below_set ?_ GE217.out) | exact HB.out))) : w.heap.size ≤ gb225)); have n5_ := Aside0.mk ((by rw [hg]; exact Nat.ne_of_lt (blk_lt (g := gb217) (o := .cells #[.int .u8 0, .string (⟨#[]⟩ : ByteArray), .bool false, .bool false, .int .u64 0] 25 (0, 0)) (by (with_reducible repeat (first | refine blk_drewN ?_ _ | refine blk_drew ?_ | refine blk_alloc ?_ _)); exact BK217.out)) : gb217 ≠ gb225)); have n6_ := Aside0.mk ((by rw [hg]; exact Nat.ne_of_gt (blk_lt (g := gb217) (o := .cells #[.int .u8 0, .string (⟨#[]⟩ : ByteArray), .bool false, .bool false, .int .u64 0] 25 (0, 0)) (by (with_reducible repeat (first | refine blk_drewN ?_ _ | refine blk_drew ?_ | refine blk_alloc ?_ _)); exact BK217.out)) : gb225 ≠ gb217)); clear BK217; clear HB; have BK217 := n0_; have HB := n1_; have BK225 := n2_; have GW225 := n3_; have GE225 := n4_; have NB217_225 := n5_; have NB225_217 := n6_; clear n0_ n1_ n2_ n3_ n4_ n5_ n6_; clear hb hbox hg; have hnb8 := NB225_217.out; have hnc8 := NB217_225.out; have hcz9_0 : w7.cell? ⟨gb225, 0, none⟩ = some (.int .u8 0) := (blk_cell BK225.out 0).trans rfl; have hcz9_1 : w7.cell? ⟨gb225, 1, none⟩ = some (.string (⟨#[]⟩ : ByteArray)) := (blk_cell BK225.out 1).trans rfl; have hcz9_2 : w7.cell? ⟨gb225, 2, none⟩ = some (.bool false) := (blk_cell BK225.out 2).trans rfl; have hcz9_3 : w7.cell? ⟨gb225, 3, none⟩ = some (.bool false) := (blk_cell BK225.out 3).trans rfl; have hcz9_4 : w7.cell? ⟨gb225, 4, none⟩ = some (.int .u64 0) := (blk_cell BK225.out 4).trans rfl; have hfz9_0 := blk_frozen BK225.out 0; have hfz9_1 := blk_frozen BK225.out 1; have hfz9_2 := blk_frozen BK225.out 2; have hfz9_3 := blk_frozen BK225.out 3; have hfz9_4 := blk_frozen BK225.out 4; have hcz10_0 : w7.cell? ⟨gb217, 0, none⟩ = some (.int .u8 0) := (blk_cell BK217.out 0).trans rfl; have hcz10_1 : w7.cell? ⟨gb217, 1, none⟩ = some (.string (⟨#[]⟩ : ByteArray)) := (blk_cell BK217.out 1).trans rfl; have hcz10_2 : w7.cell? ⟨gb217, 2, none⟩ = some (.bool false) := (blk_cell BK217.out 2).trans rfl; have hcz10_3 : w7.cell? ⟨gb217, 3, none⟩ = some (.bool false) := (blk_cell BK217.out 3).trans rfl; have hcz10_4 : w7.cell? ⟨gb217, 4, none⟩ = some (.int .u64 0) := (blk_cell BK217.out 4).trans rfl; have hfz10_0 := blk_frozen BK217.out 0; have hfz10_1 := blk_frozen BK217.out 1; have hfz10_2 := blk_frozen BK217.out 2; have hfz10_3 := blk_frozen BK217.out 3; have hfz10_4 := blk_frozen BK217.out 4))
    refine bodyPost_ret (results_ct rfl _ _ gb217 25 #[.int .u8 t219, .string t220, .bool t221, .bool t222, .int .u64 t223] (0, 0) _ rfl (by (with_reducible repeat (first | refine blk_drewN ?_ _ | refine blk_drew ?_ | refine blk_alloc ?_ _)); refine blk_put (cs := #[.int .u8 t219, .string t220, .bool t221, .bool t222, .int .u64 0]) ?_ 4 _ rfl; (with_reducible repeat (first | refine blk_drewN ?_ _ | refine blk_drew ?_ | refine blk_alloc ?_ _)); refine blk_put (cs := #[.int .u8 t219, .string t220, .bool t221, .bool false, .int .u64 0]) ?_ 3 _ rfl; (with_reducible repeat (first | refine blk_drewN ?_ _ | refine blk_drew ?_ | refine blk_alloc ?_ _)); refine blk_put (cs := #[.int .u8 t219, .string t220, .bool false, .bool false, .int .u64 0]) ?_ 2 _ rfl; (with_reducible repeat (first | refine blk_drewN ?_ _ | refine blk_drew ?_ | refine blk_alloc ?_ _)); refine blk_put (cs := #[.int .u8 t219, .string (⟨#[]⟩ : ByteArray), .bool false, .bool false, .int .u64 0]) ?_ 1 _ rfl; (with_reducible repeat (first | refine blk_drewN ?_ _ | refine blk_drew ?_ | refine blk_alloc ?_ _)); refine blk_put (cs := #[.int .u8 0, .string (⟨#[]⟩ : ByteArray), .bool false, .bool false, .int .u64 0]) ?_ 0 _ rfl; (with_reducible repeat (first | refine blk_drewN ?_ _ | refine blk_drew ?_ | refine blk_alloc ?_ _)); refine blk_far ?_ NB217_225.out _; (with_reducible repeat (first | refine blk_drewN ?_ _ | refine blk_drew ?_ | refine blk_alloc ?_ _)); refine blk_far ?_ NB217_225.out _; (with_reducible repeat (first | refine blk_drewN ?_ _ | refine blk_drew ?_ | refine blk_alloc ?_ _)); refine blk_far ?_ NB217_225.out _; (with_reducible repeat (first | refine blk_drewN ?_ _ | refine blk_drew ?_ | refine blk_alloc ?_ _)); refine blk_far ?_ NB217_225.out _; (with_reducible repeat (first | refine blk_drewN ?_ _ | refine blk_drew ?_ | refine blk_alloc ?_ _)); refine blk_far ?_ NB217_225.out _; (with_reducible repeat (first | refine blk_drewN ?_ _ | refine blk_drew ?_ | refine blk_alloc ?_ _)); exact BK217.out) Tryd.underlying25 rfl (by kernel_rfl)) rfl ?_
    all_goals exact ⟨by first | rfl | (simp [errW_none, errW_some] <;> rfl) | (simp [*, errW_none, errW_some] <;> rfl), by repeat (first | (with_reducible first | exact HB.out | apply below_alloc | apply pw_below_drewN | apply below_drew1 | refine below_set ?_ GE217.out | refine below_set ?_ GE225.out) | exact HB.out)⟩
  · replace c4 := Bool.eq_false_iff.mpr c4
    subst c4
    have H1 : (tipstaffref17_Parse.l0 k t218 (([(⟨#[62]⟩ : ByteArray), (⟨#[35]⟩ : ByteArray), (⟨#[33]⟩ : ByteArray), (⟨#[43]⟩ : ByteArray), (⟨#[45]⟩ : ByteArray), (⟨#[126]⟩ : ByteArray), (⟨#[37, 82, 126]⟩ : ByteArray), (⟨#[37, 87, 126]⟩ : ByteArray), (⟨#[37, 82, 87, 126]⟩ : ByteArray), (⟨#[38]⟩ : ByteArray)] : List ByteArray)) 0) = some (r1, r2, r3, r4, r5, r6) := by rw [if_neg (show ¬ (false = true) by decide)] at H; exact H
    clear H
    have H := H1
    clear H1
    obtain ⟨y226, hy226⟩ : ∃ y_ : List ByteArray, y_ = (([(⟨#[62]⟩ : ByteArray), (⟨#[35]⟩ : ByteArray), (⟨#[33]⟩ : ByteArray), (⟨#[43]⟩ : ByteArray), (⟨#[45]⟩ : ByteArray), (⟨#[126]⟩ : ByteArray), (⟨#[37, 82, 126]⟩ : ByteArray), (⟨#[37, 87, 126]⟩ : ByteArray), (⟨#[37, 82, 87, 126]⟩ : ByteArray), (⟨#[38]⟩ : ByteArray)] : List ByteArray)) := ⟨_, rfl⟩
    replace H : (tipstaffref17_Parse.l0 k t218 y226 0) = some (r1, r2, r3, r4, r5, r6) := by first | (rw [hy226]; with_reducible exact H) | (have H2_ := (Option.bind_some _ _).symm.trans H; rw [hy226]; with_reducible exact H2_) | (have H2_ := (Option.bind_some _ _).symm.trans H; with_reducible exact H2_) | with_reducible exact H | (rw [hy226]; exact H) | exact H
    have Ny226 := Aside0.mk hy226
    clear hy226
    have H' := Aside0.mk H
    clear H
    go_enter Tryd.func16, Tryd.ntmps16
    go_wp2_with (first | ((with_reducible refine gate_dst (N := 2) rfl ?_); refine box_event ?hg (N := 2) ?hd (cs := #[.int .u8 0, .string (⟨#[]⟩ : ByteArray), .bool false, .bool false, .int .u64 0]) (t := 25) ?hr ?_; (case hd => rfl); (case hg => rfl); (case hr => first | (go_simp; done) | (go_simp; rfl)); intro gb217 hg w11 hbox hb; have n0_ := Aside0.mk (below_step (by repeat (first | (with_reducible first | exact HB.out | apply below_alloc | apply pw_below_drewN | apply below_drew1) | exact HB.out)) hb); have n1_ := Aside0.mk (hbox); have n2_ := Aside0.mk ((by rw [hg]; exact (below_size (by repeat (first | (with_reducible first | exact HB.out | apply below_alloc | apply pw_below_drewN | apply below_drew1) | exact HB.out))) : w.heap.size ≤ gb217)); have n3_ := Aside0.mk ((by rw [hg]; exact (below_size (by repeat (first | (with_reducible first | exact HB.out | apply below_alloc | apply pw_below_drewN | apply below_drew1) | exact HB.out))) : w.heap.size ≤ gb217)); clear HB; have HB := n0_; have BK217 := n1_; have GW217 := n2_; have GE217 := n3_; clear n0_ n1_ n2_ n3_; clear hb hbox hg) | ((with_reducible refine gate_callee (f := 38) rfl ?_); refine goesL_ (some 15) rfl rfl Tryd.func38 (by kernel_rfl) rfl #[.string a0] rfl (by (try simp only [List.map_toArray, List.map_cons, List.map_nil]); first | done | rfl | (simp only [List.length_drop, List.length_take]; rfl)) ?_; (with_reducible refine (tipstaffref17_other.calls a0 t218 _ A2.out).mono ?_); rintro e w' ⟨rfl, ⟨nd, rfl⟩⟩; refine ⟨_, rfl, ?_⟩; (try (rw [drewN_self w11]; generalize hq_ : World.drewN w11 _ = w11; have n0_ : Aside0 (w11.heap[gb217]? = some (.cells #[.int .u8 0, .string (⟨#[]⟩ : ByteArray), .bool false, .bool false, .int .u64 0] 25 (0, 0))) := ⟨by rw [← hq_]; exact (by (with_reducible repeat (first | refine blk_drewN ?_ _ | refine blk_drew ?_ | refine blk_alloc ?_ _)); exact BK217.out)⟩; have n1_ : Aside0 (Below w.heap.size w w11) := ⟨by rw [← hq_]; exact (by repeat (first | (with_reducible first | exact HB.out | apply below_alloc | apply pw_below_drewN | apply below_drew1 | refine below_set ?_ GE217.out) | exact HB.out))⟩; clear BK217 HB hq_; have BK217 := n0_; have HB := n1_; clear n0_ n1_))) | ((with_reducible refine gate_callee (f := 39) rfl ?_); refine goesL_ (some 18) rfl rfl Tryd.func39 (by kernel_rfl) rfl #[.string t218] rfl (by (try simp only [List.map_toArray, List.map_cons, List.map_nil]); first | done | rfl | (simp only [List.length_drop, List.length_take]; rfl)) ?_; (with_reducible refine (tipstaffref17_plain.calls k t218 t219 t220 t221 t222 t223 false _ A3.out).mono ?_); rintro e w12 ⟨rfl, hb⟩; refine ⟨_, rfl, ?_⟩; have n0_ := Aside0.mk (blk_below (g := gb217) (o := .cells #[.int .u8 0, .string (⟨#[]⟩ : ByteArray), .bool false, .bool false, .int .u64 0] 25 (0, 0)) (by (with_reducible repeat (first | refine blk_drewN ?_ _ | refine blk_drew ?_ | refine blk_alloc ?_ _)); exact BK217.out) hb); have n1_ := Aside0.mk (below_step (by repeat (first | (with_reducible first | exact HB.out | apply below_alloc | apply pw_below_drewN | apply below_drew1 | refine below_set ?_ GE217.out) | exact HB.out)) hb); clear BK217; clear HB; have BK217 := n0_; have HB := n1_; clear n0_ n1_; (try clear hb); (try clear hb2); (try clear hk); (try clear hi)) | ((with_reducible refine gate_dst (N := 5) rfl ?_); refine box_event ?hg (N := 5) ?hd (cs := #[.int .u8 0, .string (⟨#[]⟩ : ByteArray), .bool false, .bool false, .int .u64 0]) (t := 25) ?hr ?_; (case hd => rfl); (case hg => rfl); (case hr => first | (go_simp; done) | (go_simp; rfl)); intro gb225 hg w13 hbox hb; have n0_ := Aside0.mk (blk_below (g := gb217) (o := .cells #[.int .u8 0, .string (⟨#[]⟩ : ByteArray), .bool false, .bool false, .int .u64 0] 25 (0, 0)) (by (with_reducible repeat (first | refine blk_drewN ?_ _ | refine blk_drew ?_ | refine blk_alloc ?_ _)); exact BK217.out) hb); have n1_ := Aside0.mk (below_step (by repeat (first | (with_reducible first | exact HB.out | apply below_alloc | apply pw_below_drewN | apply below_drew1 | refine below_set ?_ GE217.out) | exact HB.out)) hb); have n2_ := Aside0.mk (hbox); have n3_ := Aside0.mk ((by rw [hg]; exact (below_size (by repeat (first | (with_reducible first | exact HB.out | apply below_alloc | apply pw_below_drewN | apply below_drew1 | refine below_set ?_ GE217.out) | exact HB.out))) : w.heap.size ≤ gb225)); have n4_ := Aside0.mk ((by rw [hg]; exact (below_size (by repeat (first | (with_reducible first | exact HB.out | apply below_alloc | apply pw_below_drewN | apply below_drew1 | refine below_set ?_ GE217.out) | exact HB.out))) : w.heap.size ≤ gb225)); have n5_ := Aside0.mk ((by rw [hg]; exact Nat.ne_of_lt (blk_lt (g := gb217) (o := .cells #[.int .u8 0, .string (⟨#[]⟩ : ByteArray), .bool false, .bool false, .int .u64 0] 25 (0, 0)) (by (with_reducible repeat (first | refine blk_drewN ?_ _ | refine blk_drew ?_ | refine blk_alloc ?_ _)); exact BK217.out)) : gb217 ≠ gb225)); have n6_ := Aside0.mk ((by rw [hg]; exact Nat.ne_of_gt (blk_lt (g := gb217) (o := .cells #[.int .u8 0, .string (⟨#[]⟩ : ByteArray), .bool false, .bool false, .int .u64 0] 25 (0, 0)) (by (with_reducible repeat (first | refine blk_drewN ?_ _ | refine blk_drew ?_ | refine blk_alloc ?_ _)); exact BK217.out)) : gb225 ≠ gb217)); clear BK217; clear HB; have BK217 := n0_; have HB := n1_; have BK225 := n2_; have GW225 := n3_; have GE225 := n4_; have NB217_225 := n5_; have NB225_217 := n6_; clear n0_ n1_ n2_ n3_ n4_ n5_ n6_; clear hb hbox hg; have hnb14 := NB225_217.out; have hnc14 := NB217_225.out; have hcz15_0 : w13.cell? ⟨gb225, 0, none⟩ = some (.int .u8 0) := (blk_cell BK225.out 0).trans rfl; have hcz15_1 : w13.cell? ⟨gb225, 1, none⟩ = some (.string (⟨#[]⟩ : ByteArray)) := (blk_cell BK225.out 1).trans rfl; have hcz15_2 : w13.cell? ⟨gb225, 2, none⟩ = some (.bool false) := (blk_cell BK225.out 2).trans rfl; have hcz15_3 : w13.cell? ⟨gb225, 3, none⟩ = some (.bool false) := (blk_cell BK225.out 3).trans rfl; have hcz15_4 : w13.cell? ⟨gb225, 4, none⟩ = some (.int .u64 0) := (blk_cell BK225.out 4).trans rfl; have hfz15_0 := blk_frozen BK225.out 0; have hfz15_1 := blk_frozen BK225.out 1; have hfz15_2 := blk_frozen BK225.out 2; have hfz15_3 := blk_frozen BK225.out 3; have hfz15_4 := blk_frozen BK225.out 4) | ((with_reducible refine gate_dst (N := 23) rfl ?_); refine Kd.R_lit Kd.string _ 9 ?hg (N := 23) ?hd (xs := ([(⟨#[62]⟩ : ByteArray), (⟨#[35]⟩ : ByteArray), (⟨#[33]⟩ : ByteArray), (⟨#[43]⟩ : ByteArray), (⟨#[45]⟩ : ByteArray), (⟨#[126]⟩ : ByteArray), (⟨#[37, 82, 126]⟩ : ByteArray), (⟨#[37, 87, 126]⟩ : ByteArray), (⟨#[37, 82, 87, 126]⟩ : ByteArray), (⟨#[38]⟩ : ByteArray)] : List ByteArray)) (inner := [.string (⟨#[62]⟩ : ByteArray), .string (⟨#[35]⟩ : ByteArray), .string (⟨#[33]⟩ : ByteArray), .string (⟨#[43]⟩ : ByteArray), .string (⟨#[45]⟩ : ByteArray), .string (⟨#[126]⟩ : ByteArray), .string (⟨#[37, 82, 126]⟩ : ByteArray), .string (⟨#[37, 87, 126]⟩ : ByteArray), .string (⟨#[37, 82, 87, 126]⟩ : ByteArray), .string (⟨#[38]⟩ : ByteArray)]) (ok := fun _ => True) (okp := fun _ => True) ?hr ?hp (fun _ hk => hk) trivial (Below.refl _ _) (Nat.le_refl _) (by simp) ?_; (case hd => rfl); (case hg => rfl); (case hr => first | (go_simp; done) | (go_simp; rfl)); (case hp => exact (Reps.one (show Kd.M Kd.string _ _ _ (⟨#[62]⟩ : ByteArray) [.string (⟨#[62]⟩ : ByteArray)] from rfl) (Reps.one (show Kd.M Kd.string _ _ _ (⟨#[35]⟩ : ByteArray) [.string (⟨#[35]⟩ : ByteArray)] from rfl) (Reps.one (show Kd.M Kd.string _ _ _ (⟨#[33]⟩ : ByteArray) [.string (⟨#[33]⟩ : ByteArray)] from rfl) (Reps.one (show Kd.M Kd.string _ _ _ (⟨#[43]⟩ : ByteArray) [.string (⟨#[43]⟩ : ByteArray)] from rfl) (Reps.one (show Kd.M Kd.string _ _ _ (⟨#[45]⟩ : ByteArray) [.string (⟨#[45]⟩ : ByteArray)] from rfl) (Reps.one (show Kd.M Kd.string _ _ _ (⟨#[126]⟩ : ByteArray) [.string (⟨#[126]⟩ : ByteArray)] from rfl) (Reps.one (show Kd.M Kd.string _ _ _ (⟨#[37, 82, 126]⟩ : ByteArray) [.string (⟨#[37, 82, 126]⟩ : ByteArray)] from rfl) (Reps.one (show Kd.M Kd.string _ _ _ (⟨#[37, 87, 126]⟩ : ByteArray) [.string (⟨#[37, 87, 126]⟩ : ByteArray)] from rfl) (Reps.one (show Kd.M Kd.string _ _ _ (⟨#[37, 82, 87, 126]⟩ : ByteArray) [.string (⟨#[37, 82, 87, 126]⟩ : ByteArray)] from rfl) (Reps.one (show Kd.M Kd.string _ _ _ (⟨#[38]⟩ : ByteArray) [.string (⟨#[38]⟩ : ByteArray)] from rfl) (Reps.none _ _)))))))))))); intro v227 w16 ho17 hb hg_ hnew_; clear hg_ hnew_; (first | rw [← Ny226.out] at ho17 | (simp only [Int.reduceToNat] at ho17; rw [← Ny226.out] at ho17)); have n0_ := Aside0.mk (Kd.R_lower ho17 (below_size (by repeat (first | (with_reducible first | exact HB.out | apply below_alloc | apply pw_below_drewN | apply below_drew1 | refine below_set ?_ GE217.out | refine below_set ?_ GE225.out) | exact HB.out)))); have n1_ := Aside0.mk (blk_below (g := gb217) (o := .cells #[.int .u8 0, .string (⟨#[]⟩ : ByteArray), .bool false, .bool false, .int .u64 0] 25 (0, 0)) (by (with_reducible repeat (first | refine blk_drewN ?_ _ | refine blk_drew ?_ | refine blk_alloc ?_ _)); refine blk_far ?_ NB217_225.out _; (with_reducible repeat (first | refine blk_drewN ?_ _ | refine blk_drew ?_ | refine blk_alloc ?_ _)); refine blk_far ?_ NB217_225.out _; (with_reducible repeat (first | refine blk_drewN ?_ _ | refine blk_drew ?_ | refine blk_alloc ?_ _)); refine blk_far ?_ NB217_225.out _; (with_reducible repeat (first | refine blk_drewN ?_ _ | refine blk_drew ?_ | refine blk_alloc ?_ _)); refine blk_far ?_ NB217_225.out _; (with_reducible repeat (first | refine blk_drewN ?_ _ | refine blk_drew ?_ | refine blk_alloc ?_ _)); refine blk_far ?_ NB217_225.out _; (with_reducible repeat (first | refine blk_drewN ?_ _ | refine blk_drew ?_ | refine blk_alloc ?_ _)); exact BK217.out) hb); have n2_ := Aside0.mk (blk_below (g := gb225) (o := .cells #[.int .u8 t219, .string t220, .bool t221, .bool t222, .int .u64 t223] 25 (0, 0)) (by (with_reducible repeat (first | refine blk_drewN ?_ _ | refine blk_drew ?_ | refine blk_alloc ?_ _)); refine blk_put (cs := #[.int .u8 t219, .string t220, .bool t221, .bool t222, .int .u64 0]) ?_ 4 _ rfl; (with_reducible repeat (first | refine blk_drewN ?_ _ | refine blk_drew ?_ | refine blk_alloc ?_ _)); refine blk_put (cs := #[.int .u8 t219, .string t220, .bool t221, .bool false, .int .u64 0]) ?_ 3 _ rfl; (with_reducible repeat (first | refine blk_drewN ?_ _ | refine blk_drew ?_ | refine blk_alloc ?_ _)); refine blk_put (cs := #[.int .u8 t219, .string t220, .bool false, .bool false, .int .u64 0]) ?_ 2 _ rfl; (with_reducible repeat (first | refine blk_drewN ?_ _ | refine blk_drew ?_ | refine blk_alloc ?_ _)); refine blk_put (cs := #[.int .u8 t219, .string (⟨#[]⟩ : ByteArray), .bool false, .bool false, .int .u64 0]) ?_ 1 _ rfl; (with_reducible repeat (first | refine blk_drewN ?_ _ | refine blk_drew ?_ | refine blk_alloc ?_ _)); refine blk_put (cs := #[.int .u8 0, .string (⟨#[]⟩ : ByteArray), .bool false, .bool false, .int .u64 0]) ?_ 0 _ rfl; (with_reducible repeat (first | refine blk_drewN ?_ _ | refine blk_drew ?_ | refine blk_alloc ?_ _)); exact BK225.out) hb); have n3_ := Aside0.mk (below_step (by repeat (first | (with_reducible first | exact HB.out | apply below_alloc | apply pw_below_drewN | apply below_drew1 | refine below_set ?_ GE217.out | refine below_set ?_ GE225.out) | exact HB.out)) hb); clear BK217; clear BK225; clear HB; have HO228 := n0_; have BK217 := n1_; have BK225 := n2_; have HB := n3_; clear n0_ n1_ n2_ n3_; clear hb ho17))
    go_loopg [8] k (fun kq v8 w' => ∃ (x8_1 : Int) (x218000_1 : Int) (x218001_1 : ByteArray) (x218002_1 : Bool) (x218003_1 : Bool) (x218004_1 : Int), v8 = .int .i64 x8_1 ∧ Aside0 (tipstaffref17_Parse.l0 kq t218 y226 x8_1 = some (r1, r2, r3, r4, r5, r6)) ∧ Aside0 (kq ≤ k) ∧ Aside0 (Kd.R Kd.string 9 w' w.heap.size (fun _ => True) v227 y226) ∧ Aside0 (w'.heap[gb217]? = some (.cells #[.int .u8 x218000_1, .string x218001_1, .bool x218002_1, .bool x218003_1, .int .u64 x218004_1] 25 (0, 0))) ∧ Aside0 (w'.heap[gb225]? = some (.cells #[.int .u8 t219, .string t220, .bool t221, .bool t222, .int .u64 t223] 25 (0, 0))) ∧ Aside0 (Below w.heap.size w w'))
    case atStart => exact ⟨(0), (0), ((⟨#[]⟩ : ByteArray)), (false), (false), (0), (by first | rfl | (simp; done) | (simp [*]; done)), H', ⟨Nat.le_refl _⟩, ⟨by (with_reducible repeat (first | apply Kd.R_alloc | apply Kd.R_drewN | apply Kd.R_drew)); exact HO228.out⟩, ⟨by (with_reducible repeat (first | refine blk_drewN ?_ _ | refine blk_drew ?_ | refine blk_alloc ?_ _)); exact BK217.out⟩, ⟨by (with_reducible repeat (first | refine blk_drewN ?_ _ | refine blk_drew ?_ | refine blk_alloc ?_ _)); exact BK225.out⟩, ⟨by repeat (first | (with_reducible first | exact HB.out | apply below_alloc | apply pw_below_drewN | apply below_drew1 | refine below_set ?_ GE217.out | refine below_set ?_ GE225.out) | exact HB.out)⟩⟩
    case round =>
      clear H'
      try clear c1
      try clear p2
      try clear c3
      try clear c4
      try clear c8
      try clear c14
      try clear c16
      try clear hcz10_0
      try clear hcz10_1
      try clear hcz10_2
      try clear hcz10_3
      try clear hcz10_4
      try clear hcz15_0
      try clear hcz15_1
      try clear hcz15_2
      try clear hcz15_3
      try clear hcz15_4
      try clear hcz9_0
      try clear hcz9_1
      try clear hcz9_2
      try clear hcz9_3
      try clear hcz9_4
      try clear hfz10_0
      try clear hfz10_1
      try clear hfz10_2
      try clear hfz10_3
      try clear hfz10_4
      try clear hfz15_0
      try clear hfz15_1
      try clear hfz15_2
      try clear hfz15_3
      try clear hfz15_4
      try clear hfz9_0
      try clear hfz9_1
      try clear hfz9_2
      try clear hfz9_3
      try clear hfz9_4
      obtain ⟨x8_1, x218000_1, x218001_1, x218002_1, x218003_1, x218004_1, rfl, HA, HK1, HO_7, BK217, BK225, HB⟩ := hrel
      cases gk with
      | zero => exact absurd HA.out (by simp [tipstaffref17_Parse.l0])
      | succ k1 =>
        have H := HA.out
        clear HA
        simp only [tipstaffref17_Parse.l0] at H
        by_cases c18 : x8_1 < (y226.length : Int)
        · rw [if_pos c18] at H
          have c18b0 : decide (x8_1 < (y226.length : Int)) = true := decide_eq_true c18
          clear c18
          by_cases c19 : 0 ≤ x8_1
          · rw [if_pos c19] at H
            have c19b0 : decide (0 ≤ x8_1) = true := decide_eq_true c19
            clear c19
            replace H := Option.bind_eq_some_iff.mp H
            obtain ⟨⟨t230, t231⟩, A200, H⟩ := H
            replace H : (if t231 = true then (if (rdOf ByteArray.empty y226 x8_1).toList = ([62] : List UInt8) then (some (5, t230, false, false, 0, true)) else (if (rdOf ByteArray.empty y226 x8_1).toList = ([35] : List UInt8) then (tipstaffref17_Parse.j1 k1 y226 x8_1 t230 (rdOf ByteArray.empty y226 x8_1) ((rdOf ByteArray.empty y226 x8_1).toList == ([35] : List UInt8))) else (tipstaffref17_Parse.j1 k1 y226 x8_1 t230 (rdOf ByteArray.empty y226 x8_1) ((rdOf ByteArray.empty y226 x8_1).toList == ([33] : List UInt8))))) else (tipstaffref17_Parse.l0 k1 t218 y226 (wrap64 (x8_1 + 1)))) = some (r1, r2, r3, r4, r5, r6) := H
            have A20 := Aside0.mk A200
            clear A200
            by_cases c21 : t231 = true
            · subst c21
              have H1 : (if (rdOf ByteArray.empty y226 x8_1).toList = ([62] : List UInt8) then (some (5, t230, false, false, 0, true)) else (if (rdOf ByteArray.empty y226 x8_1).toList = ([35] : List UInt8) then (tipstaffref17_Parse.j1 k1 y226 x8_1 t230 (rdOf ByteArray.empty y226 x8_1) ((rdOf ByteArray.empty y226 x8_1).toList == ([35] : List UInt8))) else (tipstaffref17_Parse.j1 k1 y226 x8_1 t230 (rdOf ByteArray.empty y226 x8_1) ((rdOf ByteArray.empty y226 x8_1).toList == ([33] : List UInt8))))) = some (r1, r2, r3, r4, r5, r6) := by rw [if_pos rfl] at H; exact H
              clear H
              have H := H1
              clear H1
              by_cases c22 : (rdOf ByteArray.empty y226 x8_1).toList = ([62] : List UInt8)
              · rw [if_pos c22] at H
                have c22b0 : ((rdOf ByteArray.empty y226 x8_1).toList == ([62] : List UInt8)) = true := beq_iff_eq.mpr c22
                have c22b1 : ((rdOf ByteArray.empty y226 x8_1).toList != ([62] : List UInt8)) = false := bne_eq_false_iff_eq.mpr c22
                clear c22
                simp only [Option.some.injEq, Prod.mk.injEq] at H
                obtain ⟨rfl, rfl, rfl, rfl, rfl, rfl⟩ := H
                obtain ⟨Ao23, co23, eo23⟩ := Kd.R_slice HO_7.out
                subst eo23
                have p229 : 0 ≤ (x8_1 : Int) := of_decide_eq_true (by first | (with_reducible assumption) | assumption)
                have q229 : x8_1 < (y226.length : Int) := of_decide_eq_true (by first | (with_reducible assumption) | assumption)
                obtain ⟨ad229, e229, hx229_0⟩ := Kd.at_string (Kd.R_reads' HO_7.out).2.2 x8_1 p229 q229
                cases e229
                replace p229 := eq_true p229
                replace q229 := eq_true q229
                go_wp2_with (first | ((with_reducible refine gate_callee (f := 40) rfl ?_); refine goesL_ (some 36) rfl rfl Tryd.func40 (by kernel_rfl) rfl #[.string t218, .string (rdOf ByteArray.empty y226 x8_1)] rfl (by (try simp only [List.map_toArray, List.map_cons, List.map_nil]); first | done | rfl | (simp only [List.length_drop, List.length_take]; rfl)) ?_; (with_reducible refine (tipstaffref17_begins.calls t218 (rdOf ByteArray.empty y226 x8_1) t230 true _ A20.out).mono ?_); rintro e w' ⟨rfl, ⟨nd, rfl⟩⟩; refine ⟨_, rfl, ?_⟩; (try (rw [drewN_self wr]; generalize hq_ : World.drewN wr _ = wr; have n0_ : Aside0 (Kd.R Kd.string 9 wr w.heap.size (fun _ => True) (.slice (some ad229) y226.length co23) y226) := ⟨by rw [← hq_]; exact (by (with_reducible repeat (first | apply Kd.R_alloc | apply Kd.R_drewN | apply Kd.R_drew)); exact HO_7.out)⟩; have n1_ : Aside0 (wr.heap[gb217]? = some (.cells #[.int .u8 x218000_1, .string x218001_1, .bool x218002_1, .bool x218003_1, .int .u64 x218004_1] 25 (0, 0))) := ⟨by rw [← hq_]; exact (by (with_reducible repeat (first | refine blk_drewN ?_ _ | refine blk_drew ?_ | refine blk_alloc ?_ _)); exact BK217.out)⟩; have n2_ : Aside0 (wr.heap[gb225]? = some (.cells #[.int .u8 t219, .string t220, .bool t221, .bool t222, .int .u64 t223] 25 (0, 0))) := ⟨by rw [← hq_]; exact (by (with_reducible repeat (first | refine blk_drewN ?_ _ | refine blk_drew ?_ | refine blk_alloc ?_ _)); exact BK225.out)⟩; have n3_ : Aside0 (Below w.heap.size w wr) := ⟨by rw [← hq_]; exact (by repeat (first | (with_reducible first | exact HB.out | apply below_alloc | apply pw_below_drewN | apply below_drew1 | refine below_set ?_ GE217.out | refine below_set ?_ GE225.out) | exact HB.out))⟩; clear HO_7 BK217 BK225 HB hq_; have HO_7 := n0_; have BK217 := n1_; have BK225 := n2_; have HB := n3_; clear n0_ n1_ n2_ n3_)); have p232 : 0 ≤ (x8_1 : Int) := of_decide_eq_true (by first | (with_reducible assumption) | assumption); have q232 : x8_1 < (y226.length : Int) := of_decide_eq_true (by first | (with_reducible assumption) | assumption); obtain ⟨ad232, e232, hx232_0⟩ := Kd.at_string (Kd.R_reads' HO_7.out).2.2 x8_1 p232 q232; obtain rfl : ad229 = ad232 := (by injection e232); replace p232 := eq_true p232; replace q232 := eq_true q232; have hnb24 := NB217_225.out; have hnc24 := NB225_217.out; have hcz25_0 : wr.cell? ⟨gb217, 0, none⟩ = some (.int .u8 x218000_1) := (blk_cell BK217.out 0).trans rfl; have hcz25_1 : wr.cell? ⟨gb217, 1, none⟩ = some (.string x218001_1) := (blk_cell BK217.out 1).trans rfl; have hcz25_2 : wr.cell? ⟨gb217, 2, none⟩ = some (.bool x218002_1) := (blk_cell BK217.out 2).trans rfl; have hcz25_3 : wr.cell? ⟨gb217, 3, none⟩ = some (.bool x218003_1) := (blk_cell BK217.out 3).trans rfl; have hcz25_4 : wr.cell? ⟨gb217, 4, none⟩ = some (.int .u64 x218004_1) := (blk_cell BK217.out 4).trans rfl; have hfz25_0 := blk_frozen BK217.out 0; have hfz25_1 := blk_frozen BK217.out 1; have hfz25_2 := blk_frozen BK217.out 2; have hfz25_3 := blk_frozen BK217.out 3; have hfz25_4 := blk_frozen BK217.out 4))
                refine bodyPost_ret (results_ct rfl _ _ gb217 25 #[.int .u8 5, .string t230, .bool false, .bool false, .int .u64 0] (0, 0) _ rfl (by (with_reducible repeat (first | refine blk_drewN ?_ _ | refine blk_drew ?_ | refine blk_alloc ?_ _)); refine blk_put (cs := #[.int .u8 5, .string t230, .bool false, .bool false, .int .u64 x218004_1]) ?_ 4 _ rfl; (with_reducible repeat (first | refine blk_drewN ?_ _ | refine blk_drew ?_ | refine blk_alloc ?_ _)); refine blk_put (cs := #[.int .u8 5, .string t230, .bool false, .bool x218003_1, .int .u64 x218004_1]) ?_ 3 _ rfl; (with_reducible repeat (first | refine blk_drewN ?_ _ | refine blk_drew ?_ | refine blk_alloc ?_ _)); refine blk_put (cs := #[.int .u8 5, .string t230, .bool x218002_1, .bool x218003_1, .int .u64 x218004_1]) ?_ 2 _ rfl; (with_reducible repeat (first | refine blk_drewN ?_ _ | refine blk_drew ?_ | refine blk_alloc ?_ _)); refine blk_put (cs := #[.int .u8 5, .string x218001_1, .bool x218002_1, .bool x218003_1, .int .u64 x218004_1]) ?_ 1 _ rfl; (with_reducible repeat (first | refine blk_drewN ?_ _ | refine blk_drew ?_ | refine blk_alloc ?_ _)); refine blk_put (cs := #[.int .u8 x218000_1, .string x218001_1, .bool x218002_1, .bool x218003_1, .int .u64 x218004_1]) ?_ 0 _ rfl; (with_reducible repeat (first | refine blk_drewN ?_ _ | refine blk_drew ?_ | refine blk_alloc ?_ _)); exact BK217.out) Tryd.underlying25 rfl (by kernel_rfl)) rfl ?_
                all_goals exact ⟨by first | rfl | (simp [errW_none, errW_some] <;> rfl) | (simp [*, errW_none, errW_some] <;> rfl), by repeat (first | (with_reducible first | exact HB.out | apply below_alloc | apply pw_below_drewN | apply below_drew1 | refine below_set ?_ GE217.out | refine below_set ?_ GE225.out) | exact HB.out)⟩
              · rw [if_neg c22] at H
                have c22b0 : ((rdOf ByteArray.empty y226 x8_1).toList == ([62] : List UInt8)) = false := beq_eq_false_iff_ne.mpr c22
                have c22b1 : ((rdOf ByteArray.empty y226 x8_1).toList != ([62] : List UInt8)) = true := bne_iff_ne.mpr c22
                have HC26 := Aside0.mk H
                clear H
                obtain ⟨Ao27, co27, eo27⟩ := Kd.R_slice HO_7.out
                subst eo27
                have p229 : 0 ≤ (x8_1 : Int) := of_decide_eq_true (by first | (with_reducible assumption) | assumption)
                have q229 : x8_1 < (y226.length : Int) := of_decide_eq_true (by first | (with_reducible assumption) | assumption)
                obtain ⟨ad229, e229, hx229_0⟩ := Kd.at_string (Kd.R_reads' HO_7.out).2.2 x8_1 p229 q229
                cases e229
                replace p229 := eq_true p229
                replace q229 := eq_true q229
                go_upto_if 49 with (first | ((with_reducible refine gate_callee (f := 40) rfl ?_); refine goesL_ (some 36) rfl rfl Tryd.func40 (by kernel_rfl) rfl #[.string t218, .string (rdOf ByteArray.empty y226 x8_1)] rfl (by (try simp only [List.map_toArray, List.map_cons, List.map_nil]); first | done | rfl | (simp only [List.length_drop, List.length_take]; rfl)) ?_; (with_reducible refine (tipstaffref17_begins.calls t218 (rdOf ByteArray.empty y226 x8_1) t230 true _ A20.out).mono ?_); rintro e w' ⟨rfl, ⟨nd, rfl⟩⟩; refine ⟨_, rfl, ?_⟩; have p232 : 0 ≤ (x8_1 : Int) := of_decide_eq_true (by first | (with_reducible assumption) | assumption); have q232 : x8_1 < (y226.length : Int) := of_decide_eq_true (by first | (with_reducible assumption) | assumption); obtain ⟨ad232, e232, hx232_0⟩ := Kd.at_string (Kd.R_reads' HO_7.out).2.2 x8_1 p232 q232; obtain rfl : ad229 = ad232 := (by injection e232); replace p232 := eq_true p232; replace q232 := eq_true q232))
                (try simp only [Act.put, List.setIfInBounds_toArray, List.set_cons_zero, List.set_cons_succ])
                go_cut [49] (fun v49 wc => ∃ (kq : Nat) (x49_25 : Bool), v49 = .bool x49_25 ∧ Aside0 (tipstaffref17_Parse.j1 kq y226 x8_1 t230 (rdOf ByteArray.empty y226 x8_1) x49_25 = some (r1, r2, r3, r4, r5, r6)) ∧ Aside0 (kq ≤ k1) ∧ Aside0 (Kd.R Kd.string 9 wc w.heap.size (fun _ => True) (.slice (some ad229) y226.length co27) y226) ∧ Aside0 (wc.heap[gb217]? = some (.cells #[.int .u8 x218000_1, .string x218001_1, .bool x218002_1, .bool x218003_1, .int .u64 x218004_1] 25 (0, 0))) ∧ Aside0 (wc.heap[gb225]? = some (.cells #[.int .u8 t219, .string t220, .bool t221, .bool t222, .int .u64 t223] 25 (0, 0))) ∧ Aside0 (Below w.heap.size w wc))
                case first =>
                  have H := HC26.out
                  clear HC26
                  by_cases c28 : (rdOf ByteArray.empty y226 x8_1).toList = ([35] : List UInt8)
                  · rw [if_pos c28] at H
                    have c28b0 : ((rdOf ByteArray.empty y226 x8_1).toList == ([35] : List UInt8)) = true := beq_iff_eq.mpr c28
                    have c28b1 : ((rdOf ByteArray.empty y226 x8_1).toList != ([35] : List UInt8)) = false := bne_eq_false_iff_eq.mpr c28
                    clear c28
                    (first | rw [c28b0] | (simp only [i64_w, i32_w]; rw [c28b0]) | skip)
                    have H' := Aside0.mk H
                    clear H
                    go_wp2
                    go_meet
                    case rel => exact ⟨_, (((rdOf ByteArray.empty y226 x8_1).toList == ([35] : List UInt8))), (by first | rfl | (simp; done) | (simp [*]; done)), H', ⟨by have := HK1.out; first | omega | exact Nat.le_refl _⟩, ⟨by (with_reducible repeat (first | apply Kd.R_alloc | apply Kd.R_drewN | apply Kd.R_drew)); exact HO_7.out⟩, ⟨by (with_reducible repeat (first | refine blk_drewN ?_ _ | refine blk_drew ?_ | refine blk_alloc ?_ _)); exact BK217.out⟩, ⟨by (with_reducible repeat (first | refine blk_drewN ?_ _ | refine blk_drew ?_ | refine blk_alloc ?_ _)); exact BK225.out⟩, ⟨by repeat (first | (with_reducible first | exact HB.out | apply below_alloc | apply pw_below_drewN | apply below_drew1 | refine below_set ?_ GE217.out | refine below_set ?_ GE225.out) | exact HB.out)⟩⟩
                  · rw [if_neg c28] at H
                    have c28b0 : ((rdOf ByteArray.empty y226 x8_1).toList == ([35] : List UInt8)) = false := beq_eq_false_iff_ne.mpr c28
                    have c28b1 : ((rdOf ByteArray.empty y226 x8_1).toList != ([35] : List UInt8)) = true := bne_iff_ne.mpr c28
                    (first | rw [c28b0] | (simp only [i64_w, i32_w]; rw [c28b0]) | skip)
                    have H' := Aside0.mk H
                    clear H
                    go_wp2
                    go_meet
                    case rel => exact ⟨_, (((rdOf ByteArray.empty y226 x8_1).toList == ([33] : List UInt8))), (by first | rfl | (simp; done) | (simp [*]; done)), H', ⟨by have := HK1.out; first | omega | exact Nat.le_refl _⟩, ⟨by (with_reducible repeat (first | apply Kd.R_alloc | apply Kd.R_drewN | apply Kd.R_drew)); exact HO_7.out⟩, ⟨by (with_reducible repeat (first | refine blk_drewN ?_ _ | refine blk_drew ?_ | refine blk_alloc ?_ _)); exact BK217.out⟩, ⟨by (with_reducible repeat (first | refine blk_drewN ?_ _ | refine blk_drew ?_ | refine blk_alloc ?_ _)); exact BK225.out⟩, ⟨by repeat (first | (with_reducible first | exact HB.out | apply below_alloc | apply pw_below_drewN | apply below_drew1 | refine below_set ?_ GE217.out | refine below_set ?_ GE225.out) | exact HB.out)⟩⟩
                case rest =>
                  clear HC26
                  try clear c1
                  try clear c2
                  try clear p2
                  try clear q2
                  try clear hx2
                  try clear c3
                  try clear c4
                  try clear p6
                  try clear c8
                  try clear c14
                  try clear c16
                  try clear c18
                  try clear c18b0
                  try clear c19
                  try clear c19b0
                  try clear c21
                  try clear c22
                  try clear c22b0
                  try clear c22b1
                  try clear p22
                  try clear q22
                  try clear hx22
                  try clear p23
                  try clear q23
                  try clear hx23
                  try clear c24
                  try clear c28
                  try clear c28b0
                  try clear c28b1
                  try clear hcz10_0
                  try clear hcz10_1
                  try clear hcz10_2
                  try clear hcz10_3
                  try clear hcz10_4
                  try clear hcz15_0
                  try clear hcz15_1
                  try clear hcz15_2
                  try clear hcz15_3
                  try clear hcz15_4
                  try clear hcz25_0
                  try clear hcz25_1
                  try clear hcz25_2
                  try clear hcz25_3
                  try clear hcz25_4
                  try clear hcz9_0
                  try clear hcz9_1
                  try clear hcz9_2
                  try clear hcz9_3
                  try clear hcz9_4
                  try clear hfz10_0
                  try clear hfz10_1
                  try clear hfz10_2
                  try clear hfz10_3
                  try clear hfz10_4
                  try clear hfz15_0
                  try clear hfz15_1
                  try clear hfz15_2
                  try clear hfz15_3
                  try clear hfz15_4
                  try clear hfz25_0
                  try clear hfz25_1
                  try clear hfz25_2
                  try clear hfz25_3
                  try clear hfz25_4
                  try clear hfz9_0
                  try clear hfz9_1
                  try clear hfz9_2
                  try clear hfz9_3
                  try clear hfz9_4
                  try clear hx229_0
                  try clear hx232_0
                  try clear p2
                  try clear p229
                  try clear p232
                  try clear q229
                  try clear q232
                  obtain ⟨kq, x49_25, rfl, HA, HJ25, HO_7, BK217, BK225, HB⟩ := hcut
                  cases kq with
                  | zero => exact absurd HA.out (by simp [tipstaffref17_Parse.j1])
                  | succ kj25 =>
                    have H := HA.out
                    clear HA
                    simp only [tipstaffref17_Parse.j1] at H
                    by_cases c29 : x49_25 = true
                    · subst c29
                      have H1 : ((tipstaffref03_Right.f kj25 t230).bind fun t233 => (if t233 = true then (if 0 ≤ x8_1 then (if x8_1 < (y226.length : Int) then (if (rdOf ByteArray.empty y226 x8_1).toList = ([35] : List UInt8) then (some (6, t230, false, false, 0, true)) else (some (7, t230, false, false, 0, true))) else (none)) else (none)) else (some (0, (⟨#[]⟩ : ByteArray), false, false, 0, false)))) = some (r1, r2, r3, r4, r5, r6) := by rw [if_pos rfl] at H; exact H
                      clear H
                      have H := H1
                      clear H1
                      replace H := Option.bind_eq_some_iff.mp H
                      obtain ⟨t233, A300, H⟩ := H
                      replace H : (if t233 = true then (if 0 ≤ x8_1 then (if x8_1 < (y226.length : Int) then (if (rdOf ByteArray.empty y226 x8_1).toList = ([35] : List UInt8) then (some (6, t230, false, false, 0, true)) else (some (7, t230, false, false, 0, true))) else (none)) else (none)) else (some (0, (⟨#[]⟩ : ByteArray), false, false, 0, false))) = some (r1, r2, r3, r4, r5, r6) := H
                      have A30 := Aside0.mk A300
                      clear A300
                      by_cases c31 : t233 = true
                      · subst c31
                        have H1 : (if 0 ≤ x8_1 then (if x8_1 < (y226.length : Int) then (if (rdOf ByteArray.empty y226 x8_1).toList = ([35] : List UInt8) then (some (6, t230, false, false, 0, true)) else (some (7, t230, false, false, 0, true))) else (none)) else (none)) = some (r1, r2, r3, r4, r5, r6) := by rw [if_pos rfl] at H; exact H
                        clear H
                        have H := H1
                        clear H1
                        by_cases c32 : 0 ≤ x8_1
                        · rw [if_pos c32] at H
                          have c32b0 : decide (0 ≤ x8_1) = true := decide_eq_true c32
                          clear c32
                          by_cases c33 : x8_1 < (y226.length : Int)
                          · rw [if_pos c33] at H
                            have c33b0 : decide (x8_1 < (y226.length : Int)) = true := decide_eq_true c33
                            clear c33
                            by_cases c34 : (rdOf ByteArray.empty y226 x8_1).toList = ([35] : List UInt8)
                            · rw [if_pos c34] at H
                              have c34b0 : ((rdOf ByteArray.empty y226 x8_1).toList == ([35] : List UInt8)) = true := beq_iff_eq.mpr c34
                              have c34b1 : ((rdOf ByteArray.empty y226 x8_1).toList != ([35] : List UInt8)) = false := bne_eq_false_iff_eq.mpr c34
                              clear c34
                              simp only [Option.some.injEq, Prod.mk.injEq] at H
                              obtain ⟨rfl, rfl, rfl, rfl, rfl, rfl⟩ := H
                              go_wp2_with (first | ((with_reducible refine gate_callee (f := 22) rfl ?_); refine goesL_ (some 53) rfl rfl Tryd.func22 (by kernel_rfl) rfl #[.string t230] rfl (by (try simp only [List.map_toArray, List.map_cons, List.map_nil]); first | done | rfl | (simp only [List.length_drop, List.length_take]; rfl)) ?_; (with_reducible refine (tipstaffref03_Right.calls kj25 t230 true _ A30.out).mono ?_); rintro e w35 ⟨rfl, hb⟩; refine ⟨_, rfl, ?_⟩; have n0_ := Aside0.mk (Kd.R_below (by (with_reducible repeat (first | apply Kd.R_alloc | apply Kd.R_drewN | apply Kd.R_drew)); exact HO_7.out) hb); have n1_ := Aside0.mk (blk_below (g := gb217) (o := .cells #[.int .u8 x218000_1, .string x218001_1, .bool x218002_1, .bool x218003_1, .int .u64 x218004_1] 25 (0, 0)) (by (with_reducible repeat (first | refine blk_drewN ?_ _ | refine blk_drew ?_ | refine blk_alloc ?_ _)); exact BK217.out) hb); have n2_ := Aside0.mk (blk_below (g := gb225) (o := .cells #[.int .u8 t219, .string t220, .bool t221, .bool t222, .int .u64 t223] 25 (0, 0)) (by (with_reducible repeat (first | refine blk_drewN ?_ _ | refine blk_drew ?_ | refine blk_alloc ?_ _)); exact BK225.out) hb); have n3_ := Aside0.mk (below_step (by repeat (first | (with_reducible first | exact HB.out | apply below_alloc | apply pw_below_drewN | apply below_drew1 | refine below_set ?_ GE217.out | refine below_set ?_ GE225.out) | exact HB.out)) hb); clear HO_7; clear BK217; clear BK225; clear HB; have HO_7 := n0_; have BK217 := n1_; have BK225 := n2_; have HB := n3_; clear n0_ n1_ n2_ n3_; (try clear hb); (try clear hb2); (try clear hk); (try clear hi); have p234 : 0 ≤ (x8_1 : Int) := of_decide_eq_true (by first | (with_reducible assumption) | assumption); have q234 : x8_1 < (y226.length : Int) := of_decide_eq_true (by first | (with_reducible assumption) | assumption); obtain ⟨ad234, e234, hx234_0⟩ := Kd.at_string (Kd.R_reads' HO_7.out).2.2 x8_1 p234 q234; obtain rfl : ad229 = ad234 := (by injection e234); replace p234 := eq_true p234; replace q234 := eq_true q234; have hnb36 := NB217_225.out; have hnc36 := NB225_217.out; have hcz37_0 : w35.cell? ⟨gb217, 0, none⟩ = some (.int .u8 x218000_1) := (blk_cell BK217.out 0).trans rfl; have hcz37_1 : w35.cell? ⟨gb217, 1, none⟩ = some (.string x218001_1) := (blk_cell BK217.out 1).trans rfl; have hcz37_2 : w35.cell? ⟨gb217, 2, none⟩ = some (.bool x218002_1) := (blk_cell BK217.out 2).trans rfl; have hcz37_3 : w35.cell? ⟨gb217, 3, none⟩ = some (.bool x218003_1) := (blk_cell BK217.out 3).trans rfl; have hcz37_4 : w35.cell? ⟨gb217, 4, none⟩ = some (.int .u64 x218004_1) := (blk_cell BK217.out 4).trans rfl; have hfz37_0 := blk_frozen BK217.out 0; have hfz37_1 := blk_frozen BK217.out 1; have hfz37_2 := blk_frozen BK217.out 2; have hfz37_3 := blk_frozen BK217.out 3; have hfz37_4 := blk_frozen BK217.out 4))
                              refine bodyPost_ret (results_ct rfl _ _ gb217 25 #[.int .u8 6, .string t230, .bool false, .bool false, .int .u64 0] (0, 0) _ rfl (by (with_reducible repeat (first | refine blk_drewN ?_ _ | refine blk_drew ?_ | refine blk_alloc ?_ _)); refine blk_put (cs := #[.int .u8 6, .string t230, .bool false, .bool false, .int .u64 x218004_1]) ?_ 4 _ rfl; (with_reducible repeat (first | refine blk_drewN ?_ _ | refine blk_drew ?_ | refine blk_alloc ?_ _)); refine blk_put (cs := #[.int .u8 6, .string t230, .bool false, .bool x218003_1, .int .u64 x218004_1]) ?_ 3 _ rfl; (with_reducible repeat (first | refine blk_drewN ?_ _ | refine blk_drew ?_ | refine blk_alloc ?_ _)); refine blk_put (cs := #[.int .u8 6, .string t230, .bool x218002_1, .bool x218003_1, .int .u64 x218004_1]) ?_ 2 _ rfl; (with_reducible repeat (first | refine blk_drewN ?_ _ | refine blk_drew ?_ | refine blk_alloc ?_ _)); refine blk_put (cs := #[.int .u8 6, .string x218001_1, .bool x218002_1, .bool x218003_1, .int .u64 x218004_1]) ?_ 1 _ rfl; (with_reducible repeat (first | refine blk_drewN ?_ _ | refine blk_drew ?_ | refine blk_alloc ?_ _)); refine blk_put (cs := #[.int .u8 x218000_1, .string x218001_1, .bool x218002_1, .bool x218003_1, .int .u64 x218004_1]) ?_ 0 _ rfl; (with_reducible repeat (first | refine blk_drewN ?_ _ | refine blk_drew ?_ | refine blk_alloc ?_ _)); exact BK217.out) Tryd.underlying25 rfl (by kernel_rfl)) rfl ?_
                              all_goals exact ⟨by first | rfl | (simp [errW_none, errW_some] <;> rfl) | (simp [*, errW_none, errW_some] <;> rfl), by repeat (first | (with_reducible first | exact HB.out | apply below_alloc | apply pw_below_drewN | apply below_drew1 | refine below_set ?_ GE217.out | refine below_set ?_ GE225.out) | exact HB.out)⟩
                            · rw [if_neg c34] at H
                              have c34b0 : ((rdOf ByteArray.empty y226 x8_1).toList == ([35] : List UInt8)) = false := beq_eq_false_iff_ne.mpr c34
                              have c34b1 : ((rdOf ByteArray.empty y226 x8_1).toList != ([35] : List UInt8)) = true := bne_iff_ne.mpr c34
                              simp only [Option.some.injEq, Prod.mk.injEq] at H
                              obtain ⟨rfl, rfl, rfl, rfl, rfl, rfl⟩ := H
                              go_wp2_with (first | ((with_reducible refine gate_callee (f := 22) rfl ?_); refine goesL_ (some 53) rfl rfl Tryd.func22 (by kernel_rfl) rfl #[.string t230] rfl (by (try simp only [List.map_toArray, List.map_cons, List.map_nil]); first | done | rfl | (simp only [List.length_drop, List.length_take]; rfl)) ?_; (with_reducible refine (tipstaffref03_Right.calls kj25 t230 true _ A30.out).mono ?_); rintro e w38 ⟨rfl, hb⟩; refine ⟨_, rfl, ?_⟩; have n0_ := Aside0.mk (Kd.R_below (by (with_reducible repeat (first | apply Kd.R_alloc | apply Kd.R_drewN | apply Kd.R_drew)); exact HO_7.out) hb); have n1_ := Aside0.mk (blk_below (g := gb217) (o := .cells #[.int .u8 x218000_1, .string x218001_1, .bool x218002_1, .bool x218003_1, .int .u64 x218004_1] 25 (0, 0)) (by (with_reducible repeat (first | refine blk_drewN ?_ _ | refine blk_drew ?_ | refine blk_alloc ?_ _)); exact BK217.out) hb); have n2_ := Aside0.mk (blk_below (g := gb225) (o := .cells #[.int .u8 t219, .string t220, .bool t221, .bool t222, .int .u64 t223] 25 (0, 0)) (by (with_reducible repeat (first | refine blk_drewN ?_ _ | refine blk_drew ?_ | refine blk_alloc ?_ _)); exact BK225.out) hb); have n3_ := Aside0.mk (below_step (by repeat (first | (with_reducible first | exact HB.out | apply below_alloc | apply pw_below_drewN | apply below_drew1 | refine below_set ?_ GE217.out | refine below_set ?_ GE225.out) | exact HB.out)) hb); clear HO_7; clear BK217; clear BK225; clear HB; have HO_7 := n0_; have BK217 := n1_; have BK225 := n2_; have HB := n3_; clear n0_ n1_ n2_ n3_; (try clear hb); (try clear hb2); (try clear hk); (try clear hi); have p234 : 0 ≤ (x8_1 : Int) := of_decide_eq_true (by first | (with_reducible assumption) | assumption); have q234 : x8_1 < (y226.length : Int) := of_decide_eq_true (by first | (with_reducible assumption) | assumption); obtain ⟨ad234, e234, hx234_0⟩ := Kd.at_string (Kd.R_reads' HO_7.out).2.2 x8_1 p234 q234; obtain rfl : ad229 = ad234 := (by injection e234); replace p234 := eq_true p234; replace q234 := eq_true q234; have hnb39 := NB217_225.out; have hnc39 := NB225_217.out; have hcz40_0 : w38.cell? ⟨gb217, 0, none⟩ = some (.int .u8 x218000_1) := (blk_cell BK217.out 0).trans rfl; have hcz40_1 : w38.cell? ⟨gb217, 1, none⟩ = some (.string x218001_1) := (blk_cell BK217.out 1).trans rfl; have hcz40_2 : w38.cell? ⟨gb217, 2, none⟩ = some (.bool x218002_1) := (blk_cell BK217.out 2).trans rfl; have hcz40_3 : w38.cell? ⟨gb217, 3, none⟩ = some (.bool x218003_1) := (blk_cell BK217.out 3).trans rfl; have hcz40_4 : w38.cell? ⟨gb217, 4, none⟩ = some (.int .u64 x218004_1) := (blk_cell BK217.out 4).trans rfl; have hfz40_0 := blk_frozen BK217.out 0; have hfz40_1 := blk_frozen BK217.out 1; have hfz40_2 := blk_frozen BK217.out 2; have hfz40_3 := blk_frozen BK217.out 3; have hfz40_4 := blk_frozen BK217.out 4))
                              refine bodyPost_ret (results_ct rfl _ _ gb217 25 #[.int .u8 7, .string t230, .bool false, .bool false, .int .u64 0] (0, 0) _ rfl (by (with_reducible repeat (first | refine blk_drewN ?_ _ | refine blk_drew ?_ | refine blk_alloc ?_ _)); refine blk_put (cs := #[.int .u8 7, .string t230, .bool false, .bool false, .int .u64 x218004_1]) ?_ 4 _ rfl; (with_reducible repeat (first | refine blk_drewN ?_ _ | refine blk_drew ?_ | refine blk_alloc ?_ _)); refine blk_put (cs := #[.int .u8 7, .string t230, .bool false, .bool x218003_1, .int .u64 x218004_1]) ?_ 3 _ rfl; (with_reducible repeat (first | refine blk_drewN ?_ _ | refine blk_drew ?_ | refine blk_alloc ?_ _)); refine blk_put (cs := #[.int .u8 7, .string t230, .bool x218002_1, .bool x218003_1, .int .u64 x218004_1]) ?_ 2 _ rfl; (with_reducible repeat (first | refine blk_drewN ?_ _ | refine blk_drew ?_ | refine blk_alloc ?_ _)); refine blk_put (cs := #[.int .u8 7, .string x218001_1, .bool x218002_1, .bool x218003_1, .int .u64 x218004_1]) ?_ 1 _ rfl; (with_reducible repeat (first | refine blk_drewN ?_ _ | refine blk_drew ?_ | refine blk_alloc ?_ _)); refine blk_put (cs := #[.int .u8 x218000_1, .string x218001_1, .bool x218002_1, .bool x218003_1, .int .u64 x218004_1]) ?_ 0 _ rfl; (with_reducible repeat (first | refine blk_drewN ?_ _ | refine blk_drew ?_ | refine blk_alloc ?_ _)); exact BK217.out) Tryd.underlying25 rfl (by kernel_rfl)) rfl ?_
                              all_goals exact ⟨by first | rfl | (simp [errW_none, errW_some] <;> rfl) | (simp [*, errW_none, errW_some] <;> rfl), by repeat (first | (with_reducible first | exact HB.out | apply below_alloc | apply pw_below_drewN | apply below_drew1 | refine below_set ?_ GE217.out | refine below_set ?_ GE225.out) | exact HB.out)⟩
                          · rw [if_neg c33] at H
                            exact absurd H (by simp)
                        · rw [if_neg c32] at H
                          exact absurd H (by simp)
                      · replace c31 := Bool.eq_false_iff.mpr c31
                        subst c31
                        have H1 : (some (0, (⟨#[]⟩ : ByteArray), false, false, 0, false)) = some (r1, r2, r3, r4, r5, r6) := by rw [if_neg (show ¬ (false = true) by decide)] at H; exact H
                        clear H
                        have H := H1
                        clear H1
                        simp only [Option.some.injEq, Prod.mk.injEq] at H
                        obtain ⟨rfl, rfl, rfl, rfl, rfl, rfl⟩ := H
                        go_wp2_with (first | ((with_reducible refine gate_callee (f := 22) rfl ?_); refine goesL_ (some 53) rfl rfl Tryd.func22 (by kernel_rfl) rfl #[.string t230] rfl (by (try simp only [List.map_toArray, List.map_cons, List.map_nil]); first | done | rfl | (simp only [List.length_drop, List.length_take]; rfl)) ?_; (with_reducible refine (tipstaffref03_Right.calls kj25 t230 false _ A30.out).mono ?_); rintro e w41 ⟨rfl, hb⟩; refine ⟨_, rfl, ?_⟩; have n0_ := Aside0.mk (Kd.R_below (by (with_reducible repeat (first | apply Kd.R_alloc | apply Kd.R_drewN | apply Kd.R_drew)); exact HO_7.out) hb); have n1_ := Aside0.mk (blk_below (g := gb217) (o := .cells #[.int .u8 x218000_1, .string x218001_1, .bool x218002_1, .bool x218003_1, .int .u64 x218004_1] 25 (0, 0)) (by (with_reducible repeat (first | refine blk_drewN ?_ _ | refine blk_drew ?_ | refine blk_alloc ?_ _)); exact BK217.out) hb); have n2_ := Aside0.mk (blk_below (g := gb225) (o := .cells #[.int .u8 t219, .string t220, .bool t221, .bool t222, .int .u64 t223] 25 (0, 0)) (by (with_reducible repeat (first | refine blk_drewN ?_ _ | refine blk_drew ?_ | refine blk_alloc ?_ _)); exact BK225.out) hb); have n3_ := Aside0.mk (below_step (by repeat (first | (with_reducible first | exact HB.out | apply below_alloc | apply pw_below_drewN | apply below_drew1 | refine below_set ?_ GE217.out | refine below_set ?_ GE225.out) | exact HB.out)) hb); clear HO_7; clear BK217; clear BK225; clear HB; have HO_7 := n0_; have BK217 := n1_; have BK225 := n2_; have HB := n3_; clear n0_ n1_ n2_ n3_; (try clear hb); (try clear hb2); (try clear hk); (try clear hi); have hnb42 := NB217_225.out; have hnc42 := NB225_217.out; have hcz43_0 : w41.cell? ⟨gb217, 0, none⟩ = some (.int .u8 x218000_1) := (blk_cell BK217.out 0).trans rfl; have hcz43_1 : w41.cell? ⟨gb217, 1, none⟩ = some (.string x218001_1) := (blk_cell BK217.out 1).trans rfl; have hcz43_2 : w41.cell? ⟨gb217, 2, none⟩ = some (.bool x218002_1) := (blk_cell BK217.out 2).trans rfl; have hcz43_3 : w41.cell? ⟨gb217, 3, none⟩ = some (.bool x218003_1) := (blk_cell BK217.out 3).trans rfl; have hcz43_4 : w41.cell? ⟨gb217, 4, none⟩ = some (.int .u64 x218004_1) := (blk_cell BK217.out 4).trans rfl; have hfz43_0 := blk_frozen BK217.out 0; have hfz43_1 := blk_frozen BK217.out 1; have hfz43_2 := blk_frozen BK217.out 2; have hfz43_3 := blk_frozen BK217.out 3; have hfz43_4 := blk_frozen BK217.out 4))
                        refine bodyPost_ret (results_ct rfl _ _ gb217 25 #[.int .u8 0, .string (⟨#[]⟩ : ByteArray), .bool false, .bool false, .int .u64 0] (0, 0) _ rfl (by (with_reducible repeat (first | refine blk_drewN ?_ _ | refine blk_drew ?_ | refine blk_alloc ?_ _)); refine blk_put (cs := #[.int .u8 0, .string (⟨#[]⟩ : ByteArray), .bool false, .bool false, .int .u64 x218004_1]) ?_ 4 _ rfl; (with_reducible repeat (first | refine blk_drewN ?_ _ | refine blk_drew ?_ | refine blk_alloc ?_ _)); refine blk_put (cs := #[.int .u8 0, .string (⟨#[]⟩ : ByteArray), .bool false, .bool x218003_1, .int .u64 x218004_1]) ?_ 3 _ rfl; (with_reducible repeat (first | refine blk_drewN ?_ _ | refine blk_drew ?_ | refine blk_alloc ?_ _)); refine blk_put (cs := #[.int .u8 0, .string (⟨#[]⟩ : ByteArray), .bool x218002_1, .bool x218003_1, .int .u64 x218004_1]) ?_ 2 _ rfl; (with_reducible repeat (first | refine blk_drewN ?_ _ | refine blk_drew ?_ | refine blk_alloc ?_ _)); refine blk_put (cs := #[.int .u8 0, .string x218001_1, .bool x218002_1, .bool x218003_1, .int .u64 x218004_1]) ?_ 1 _ rfl; (with_reducible repeat (first | refine blk_drewN ?_ _ | refine blk_drew ?_ | refine blk_alloc ?_ _)); refine blk_put (cs := #[.int .u8 x218000_1, .string x218001_1, .bool x218002_1, .bool x218003_1, .int .u64 x218004_1]) ?_ 0 _ rfl; (with_reducible repeat (first | refine blk_drewN ?_ _ | refine blk_drew ?_ | refine blk_alloc ?_ _)); exact BK217.out) Tryd.underlying25 rfl (by kernel_rfl)) rfl ?_
                        all_goals exact ⟨by first | rfl | (simp [errW_none, errW_some] <;> rfl) | (simp [*, errW_none, errW_some] <;> rfl), by repeat (first | (with_reducible first | exact HB.out | apply below_alloc | apply pw_below_drewN | apply below_drew1 | refine below_set ?_ GE217.out | refine below_set ?_ GE225.out) | exact HB.out)⟩
                    · replace c29 := Bool.eq_false_iff.mpr c29
                      subst c29
                      have H1 : (if (rdOf ByteArray.empty y226 x8_1).toList = ([43] : List UInt8) then (tipstaffref17_Parse.j2 kj25 y226 x8_1 t230 (rdOf ByteArray.empty y226 x8_1) ((rdOf ByteArray.empty y226 x8_1).toList == ([43] : List UInt8))) else (tipstaffref17_Parse.j2 kj25 y226 x8_1 t230 (rdOf ByteArray.empty y226 x8_1) ((rdOf ByteArray.empty y226 x8_1).toList == ([45] : List UInt8)))) = some (r1, r2, r3, r4, r5, r6) := by rw [if_neg (show ¬ (false = true) by decide)] at H; exact H
                      clear H
                      have H := H1
                      clear H1
                      have HC44 := Aside0.mk H
                      clear H
                      go_upto_if 66 with (fail)
                      go_cut [66] (fun v66 wc => ∃ (kq : Nat) (x66_43 : Bool), v66 = .bool x66_43 ∧ Aside0 (tipstaffref17_Parse.j2 kq y226 x8_1 t230 (rdOf ByteArray.empty y226 x8_1) x66_43 = some (r1, r2, r3, r4, r5, r6)) ∧ Aside0 (kq ≤ kj25) ∧ Aside0 (Kd.R Kd.string 9 wc w.heap.size (fun _ => True) (.slice (some ad229) y226.length co27) y226) ∧ Aside0 (wc.heap[gb217]? = some (.cells #[.int .u8 x218000_1, .string x218001_1, .bool x218002_1, .bool x218003_1, .int .u64 x218004_1] 25 (0, 0))) ∧ Aside0 (wc.heap[gb225]? = some (.cells #[.int .u8 t219, .string t220, .bool t221, .bool t222, .int .u64 t223] 25 (0, 0))) ∧ Aside0 (Below w.heap.size w wc))
                      case first =>
                        have H := HC44.out
                        clear HC44
                        by_cases c45 : (rdOf ByteArray.empty y226 x8_1).toList = ([43] : List UInt8)
                        · rw [if_pos c45] at H
                          have c45b0 : ((rdOf ByteArray.empty y226 x8_1).toList == ([43] : List UInt8)) = true := beq_iff_eq.mpr c45
                          have c45b1 : ((rdOf ByteArray.empty y226 x8_1).toList != ([43] : List UInt8)) = false := bne_eq_false_iff_eq.mpr c45
                          clear c45
                          (first | rw [c45b0] | (simp only [i64_w, i32_w]; rw [c45b0]) | skip)
                          have H' := Aside0.mk H
                          clear H
                          go_wp2
                          go_meet
                          case rel => exact ⟨_, (((rdOf ByteArray.empty y226 x8_1).toList == ([43] : List UInt8))), (by first | rfl | (simp; done) | (simp [*]; done)), H', ⟨by have := HK1.out; have := HJ25.out; first | omega | exact Nat.le_refl _⟩, ⟨by (with_reducible repeat (first | apply Kd.R_alloc | apply Kd.R_drewN | apply Kd.R_drew)); exact HO_7.out⟩, ⟨by (with_reducible repeat (first | refine blk_drewN ?_ _ | refine blk_drew ?_ | refine blk_alloc ?_ _)); exact BK217.out⟩, ⟨by (with_reducible repeat (first | refine blk_drewN ?_ _ | refine blk_drew ?_ | refine blk_alloc ?_ _)); exact BK225.out⟩, ⟨by repeat (first | (with_reducible first | exact HB.out | apply below_alloc | apply pw_below_drewN | apply below_drew1 | refine below_set ?_ GE217.out | refine below_set ?_ GE225.out) | exact HB.out)⟩⟩
                        · rw [if_neg c45] at H
                          have c45b0 : ((rdOf ByteArray.empty y226 x8_1).toList == ([43] : List UInt8)) = false := beq_eq_false_iff_ne.mpr c45
                          have c45b1 : ((rdOf ByteArray.empty y226 x8_1).toList != ([43] : List UInt8)) = true := bne_iff_ne.mpr c45
                          (first | rw [c45b0] | (simp only [i64_w, i32_w]; rw [c45b0]) | skip)
                          have H' := Aside0.mk H
                          clear H
                          go_wp2
                          go_meet
                          case rel => exact ⟨_, (((rdOf ByteArray.empty y226 x8_1).toList == ([45] : List UInt8))), (by first | rfl | (simp; done) | (simp [*]; done)), H', ⟨by have := HK1.out; have := HJ25.out; first | omega | exact Nat.le_refl _⟩, ⟨by (with_reducible repeat (first | apply Kd.R_alloc | apply Kd.R_drewN | apply Kd.R_drew)); exact HO_7.out⟩, ⟨by (with_reducible repeat (first | refine blk_drewN ?_ _ | refine blk_drew ?_ | refine blk_alloc ?_ _)); exact BK217.out⟩, ⟨by (with_reducible repeat (first | refine blk_drewN ?_ _ | refine blk_drew ?_ | refine blk_alloc ?_ _)); exact BK225.out⟩, ⟨by repeat (first | (with_reducible first | exact HB.out | apply below_alloc | apply pw_below_drewN | apply below_drew1 | refine below_set ?_ GE217.out | refine below_set ?_ GE225.out) | exact HB.out)⟩⟩
                      case rest =>
                        clear HC44
                        try clear c1
                        try clear c2
                        try clear p2
                        try clear q2
                        try clear hx2
                        try clear c3
                        try clear c4
                        try clear p6
                        try clear c8
                        try clear c14
                        try clear c16
                        try clear c18
                        try clear c18b0
                        try clear c19
                        try clear c19b0
                        try clear c21
                        try clear c22
                        try clear c22b0
                        try clear c22b1
                        try clear p22
                        try clear q22
                        try clear hx22
                        try clear p23
                        try clear q23
                        try clear hx23
                        try clear c24
                        try clear c28
                        try clear c28b0
                        try clear c28b1
                        try clear c29
                        try clear c31
                        try clear c32
                        try clear c32b0
                        try clear c33
                        try clear c33b0
                        try clear c34
                        try clear c34b0
                        try clear c34b1
                        try clear c36
                        try clear c38
                        try clear c39
                        try clear c40
                        try clear c42
                        try clear c45
                        try clear c45b0
                        try clear c45b1
                        try clear hcz10_0
                        try clear hcz10_1
                        try clear hcz10_2
                        try clear hcz10_3
                        try clear hcz10_4
                        try clear hcz15_0
                        try clear hcz15_1
                        try clear hcz15_2
                        try clear hcz15_3
                        try clear hcz15_4
                        try clear hcz25_0
                        try clear hcz25_1
                        try clear hcz25_2
                        try clear hcz25_3
                        try clear hcz25_4
                        try clear hcz37_0
                        try clear hcz37_1
                        try clear hcz37_2
                        try clear hcz37_3
                        try clear hcz37_4
                        try clear hcz40_0
                        try clear hcz40_1
                        try clear hcz40_2
                        try clear hcz40_3
                        try clear hcz40_4
                        try clear hcz43_0
                        try clear hcz43_1
                        try clear hcz43_2
                        try clear hcz43_3
                        try clear hcz43_4
                        try clear hcz9_0
                        try clear hcz9_1
                        try clear hcz9_2
                        try clear hcz9_3
                        try clear hcz9_4
                        try clear hfz10_0
                        try clear hfz10_1
                        try clear hfz10_2
                        try clear hfz10_3
                        try clear hfz10_4
                        try clear hfz15_0
                        try clear hfz15_1
                        try clear hfz15_2
                        try clear hfz15_3
                        try clear hfz15_4
                        try clear hfz25_0
                        try clear hfz25_1
                        try clear hfz25_2
                        try clear hfz25_3
                        try clear hfz25_4
                        try clear hfz37_0
                        try clear hfz37_1
                        try clear hfz37_2
                        try clear hfz37_3
                        try clear hfz37_4
                        try clear hfz40_0
                        try clear hfz40_1
                        try clear hfz40_2
                        try clear hfz40_3
                        try clear hfz40_4
                        try clear hfz43_0
                        try clear hfz43_1
                        try clear hfz43_2
                        try clear hfz43_3
                        try clear hfz43_4
                        try clear hfz9_0
                        try clear hfz9_1
                        try clear hfz9_2
                        try clear hfz9_3
                        try clear hfz9_4
                        try clear hx229_0
                        try clear hx232_0
                        try clear hx234_0
                        try clear p2
                        try clear p22
                        try clear p229
                        try clear p23
                        try clear p232
                        try clear p234
                        try clear p6
                        try clear q2
                        try clear q22
                        try clear q229
                        try clear q23
                        try clear q232
                        try clear q234
                        obtain ⟨kq, x66_43, rfl, HA, HJ43, HO_7, BK217, BK225, HB⟩ := hcut
                        cases kq with
                        | zero => exact absurd HA.out (by simp [tipstaffref17_Parse.j2])
                        | succ kj43 =>
                          have H := HA.out
                          clear HA
                          simp only [tipstaffref17_Parse.j2] at H
                          by_cases c46 : x66_43 = true
                          · subst c46
                            have H1 : ((tipstaffref17_mask.f kj43 t230).bind fun bt235 => (if bt235.2 = true then (if 0 ≤ x8_1 then (if x8_1 < (y226.length : Int) then (if (rdOf ByteArray.empty y226 x8_1).toList = ([43] : List UInt8) then (some (8, (⟨#[]⟩ : ByteArray), false, false, bt235.1, true)) else (some (9, (⟨#[]⟩ : ByteArray), false, false, bt235.1, true))) else (none)) else (none)) else (some (0, (⟨#[]⟩ : ByteArray), false, false, 0, false)))) = some (r1, r2, r3, r4, r5, r6) := by rw [if_pos rfl] at H; exact H
                            clear H
                            have H := H1
                            clear H1
                            replace H := Option.bind_eq_some_iff.mp H
                            obtain ⟨⟨t235, t236⟩, A470, H⟩ := H
                            replace H : (if t236 = true then (if 0 ≤ x8_1 then (if x8_1 < (y226.length : Int) then (if (rdOf ByteArray.empty y226 x8_1).toList = ([43] : List UInt8) then (some (8, (⟨#[]⟩ : ByteArray), false, false, t235, true)) else (some (9, (⟨#[]⟩ : ByteArray), false, false, t235, true))) else (none)) else (none)) else (some (0, (⟨#[]⟩ : ByteArray), false, false, 0, false))) = some (r1, r2, r3, r4, r5, r6) := H
                            have A47 := Aside0.mk A470
                            clear A470
                            by_cases c48 : t236 = true
                            · subst c48
                              have H1 : (if 0 ≤ x8_1 then (if x8_1 < (y226.length : Int) then (if (rdOf ByteArray.empty y226 x8_1).toList = ([43] : List UInt8) then (some (8, (⟨#[]⟩ : ByteArray), false, false, t235, true)) else (some (9, (⟨#[]⟩ : ByteArray), false, false, t235, true))) else (none)) else (none)) = some (r1, r2, r3, r4, r5, r6) := by rw [if_pos rfl] at H; exact H
                              clear H
                              have H := H1
                              clear H1
                              by_cases c49 : 0 ≤ x8_1
                              · rw [if_pos c49] at H
                                have c49b0 : decide (0 ≤ x8_1) = true := decide_eq_true c49
                                clear c49
                                by_cases c50 : x8_1 < (y226.length : Int)
                                · rw [if_pos c50] at H
                                  have c50b0 : decide (x8_1 < (y226.length : Int)) = true := decide_eq_true c50
                                  clear c50
                                  by_cases c51 : (rdOf ByteArray.empty y226 x8_1).toList = ([43] : List UInt8)
                                  · rw [if_pos c51] at H
                                    have c51b0 : ((rdOf ByteArray.empty y226 x8_1).toList == ([43] : List UInt8)) = true := beq_iff_eq.mpr c51
                                    have c51b1 : ((rdOf ByteArray.empty y226 x8_1).toList != ([43] : List UInt8)) = false := bne_eq_false_iff_eq.mpr c51
                                    clear c51
                                    simp only [Option.some.injEq, Prod.mk.injEq] at H
                                    obtain ⟨rfl, rfl, rfl, rfl, rfl, rfl⟩ := H
                                    go_wp2_with (first | ((with_reducible refine gate_callee (f := 41) rfl ?_); refine goesL_ (some 71) rfl rfl Tryd.func41 (by kernel_rfl) rfl #[.string t230] rfl (by (try simp only [List.map_toArray, List.map_cons, List.map_nil]); first | done | rfl | (simp only [List.length_drop, List.length_take]; rfl)) ?_; (with_reducible refine (tipstaffref17_mask.calls kj43 t230 t235 true _ A47.out).mono ?_); rintro e w52 ⟨rfl, hb⟩; refine ⟨_, rfl, ?_⟩; have n0_ := Aside0.mk (Kd.R_below (by (with_reducible repeat (first | apply Kd.R_alloc | apply Kd.R_drewN | apply Kd.R_drew)); exact HO_7.out) hb); have n1_ := Aside0.mk (blk_below (g := gb217) (o := .cells #[.int .u8 x218000_1, .string x218001_1, .bool x218002_1, .bool x218003_1, .int .u64 x218004_1] 25 (0, 0)) (by (with_reducible repeat (first | refine blk_drewN ?_ _ | refine blk_drew ?_ | refine blk_alloc ?_ _)); exact BK217.out) hb); have n2_ := Aside0.mk (blk_below (g := gb225) (o := .cells #[.int .u8 t219, .string t220, .bool t221, .bool t222, .int .u64 t223] 25 (0, 0)) (by (with_reducible repeat (first | refine blk_drewN ?_ _ | refine blk_drew ?_ | refine blk_alloc ?_ _)); exact BK225.out) hb); have n3_ := Aside0.mk (below_step (by repeat (first | (with_reducible first | exact HB.out | apply below_alloc | apply pw_below_drewN | apply below_drew1 | refine below_set ?_ GE217.out | refine below_set ?_ GE225.out) | exact HB.out)) hb); clear HO_7; clear BK217; clear BK225; clear HB; have HO_7 := n0_; have BK217 := n1_; have BK225 := n2_; have HB := n3_; clear n0_ n1_ n2_ n3_; (try clear hb); (try clear hb2); (try clear hk); (try clear hi); have p237 : 0 ≤ (x8_1 : Int) := of_decide_eq_true (by first | (with_reducible assumption) | assumption); have q237 : x8_1 < (y226.length : Int) := of_decide_eq_true (by first | (with_reducible assumption) | assumption); obtain ⟨ad237, e237, hx237_0⟩ := Kd.at_string (Kd.R_reads' HO_7.out).2.2 x8_1 p237 q237; obtain rfl : ad229 = ad237 := (by injection e237); replace p237 := eq_true p237; replace q237 := eq_true q237; have hnb53 := NB217_225.out; have hnc53 := NB225_217.out; have hcz54_0 : w52.cell? ⟨gb217, 0, none⟩ = some (.int .u8 x218000_1) := (blk_cell BK217.out 0).trans rfl; have hcz54_1 : w52.cell? ⟨gb217, 1, none⟩ = some (.string x218001_1) := (blk_cell BK217.out 1).trans rfl; have hcz54_2 : w52.cell? ⟨gb217, 2, none⟩ = some (.bool x218002_1) := (blk_cell BK217.out 2).trans rfl; have hcz54_3 : w52.cell? ⟨gb217, 3, none⟩ = some (.bool x218003_1) := (blk_cell BK217.out 3).trans rfl; have hcz54_4 : w52.cell? ⟨gb217, 4, none⟩ = some (.int .u64 x218004_1) := (blk_cell BK217.out 4).trans rfl; have hfz54_0 := blk_frozen BK217.out 0; have hfz54_1 := blk_frozen BK217.out 1; have hfz54_2 := blk_frozen BK217.out 2; have hfz54_3 := blk_frozen BK217.out 3; have hfz54_4 := blk_frozen BK217.out 4))
                                    refine bodyPost_ret (results_ct rfl _ _ gb217 25 #[.int .u8 8, .string (⟨#[]⟩ : ByteArray), .bool false, .bool false, .int .u64 t235] (0, 0) _ rfl (by (with_reducible repeat (first | refine blk_drewN ?_ _ | refine blk_drew ?_ | refine blk_alloc ?_ _)); refine blk_put (cs := #[.int .u8 8, .string (⟨#[]⟩ : ByteArray), .bool false, .bool false, .int .u64 x218004_1]) ?_ 4 _ rfl; (with_reducible repeat (first | refine blk_drewN ?_ _ | refine blk_drew ?_ | refine blk_alloc ?_ _)); refine blk_put (cs := #[.int .u8 8, .string (⟨#[]⟩ : ByteArray), .bool false, .bool x218003_1, .int .u64 x218004_1]) ?_ 3 _ rfl; (with_reducible repeat (first | refine blk_drewN ?_ _ | refine blk_drew ?_ | refine blk_alloc ?_ _)); refine blk_put (cs := #[.int .u8 8, .string (⟨#[]⟩ : ByteArray), .bool x218002_1, .bool x218003_1, .int .u64 x218004_1]) ?_ 2 _ rfl; (with_reducible repeat (first | refine blk_drewN ?_ _ | refine blk_drew ?_ | refine blk_alloc ?_ _)); refine blk_put (cs := #[.int .u8 8, .string x218001_1, .bool x218002_1, .bool x218003_1, .int .u64 x218004_1]) ?_ 1 _ rfl; (with_reducible repeat (first | refine blk_drewN ?_ _ | refine blk_drew ?_ | refine blk_alloc ?_ _)); refine blk_put (cs := #[.int .u8 x218000_1, .string x218001_1, .bool x218002_1, .bool x218003_1, .int .u64 x218004_1]) ?_ 0 _ rfl; (with_reducible repeat (first | refine blk_drewN ?_ _ | refine blk_drew ?_ | refine blk_alloc ?_ _)); exact BK217.out) Tryd.underlying25 rfl (by kernel_rfl)) rfl ?_
                                    all_goals exact ⟨by first | rfl | (simp [errW_none, errW_some] <;> rfl) | (simp [*, errW_none, errW_some] <;> rfl), by repeat (first | (with_reducible first | exact HB.out | apply below_alloc | apply pw_below_drewN | apply below_drew1 | refine below_set ?_ GE217.out | refine below_set ?_ GE225.out) | exact HB.out)⟩
                                  · rw [if_neg c51] at H
                                    have c51b0 : ((rdOf ByteArray.empty y226 x8_1).toList == ([43] : List UInt8)) = false := beq_eq_false_iff_ne.mpr c51
                                    have c51b1 : ((rdOf ByteArray.empty y226 x8_1).toList != ([43] : List UInt8)) = true := bne_iff_ne.mpr c51
                                    simp only [Option.some.injEq, Prod.mk.injEq] at H
                                    obtain ⟨rfl, rfl, rfl, rfl, rfl, rfl⟩ := H
                                    go_wp2_with (first | ((with_reducible refine gate_callee (f := 41) rfl ?_); refine goesL_ (some 71) rfl rfl Tryd.func41 (by kernel_rfl) rfl #[.string t230] rfl (by (try simp only [List.map_toArray, List.map_cons, List.map_nil]); first | done | rfl | (simp only [List.length_drop, List.length_take]; rfl)) ?_; (with_reducible refine (tipstaffref17_mask.calls kj43 t230 t235 true _ A47.out).mono ?_); rintro e w55 ⟨rfl, hb⟩; refine ⟨_, rfl, ?_⟩; have n0_ := Aside0.mk (Kd.R_below (by (with_reducible repeat (first | apply Kd.R_alloc | apply Kd.R_drewN | apply Kd.R_drew)); exact HO_7.out) hb); have n1_ := Aside0.mk (blk_below (g := gb217) (o := .cells #[.int .u8 x218000_1, .string x218001_1, .bool x218002_1, .bool x218003_1, .int .u64 x218004_1] 25 (0, 0)) (by (with_reducible repeat (first | refine blk_drewN ?_ _ | refine blk_drew ?_ | refine blk_alloc ?_ _)); exact BK217.out) hb); have n2_ := Aside0.mk (blk_below (g := gb225) (o := .cells #[.int .u8 t219, .string t220, .bool t221, .bool t222, .int .u64 t223] 25 (0, 0)) (by (with_reducible repeat (first | refine blk_drewN ?_ _ | refine blk_drew ?_ | refine blk_alloc ?_ _)); exact BK225.out) hb); have n3_ := Aside0.mk (below_step (by repeat (first | (with_reducible first | exact HB.out | apply below_alloc | apply pw_below_drewN | apply below_drew1 | refine below_set ?_ GE217.out | refine below_set ?_ GE225.out) | exact HB.out)) hb); clear HO_7; clear BK217; clear BK225; clear HB; have HO_7 := n0_; have BK217 := n1_; have BK225 := n2_; have HB := n3_; clear n0_ n1_ n2_ n3_; (try clear hb); (try clear hb2); (try clear hk); (try clear hi); have p237 : 0 ≤ (x8_1 : Int) := of_decide_eq_true (by first | (with_reducible assumption) | assumption); have q237 : x8_1 < (y226.length : Int) := of_decide_eq_true (by first | (with_reducible assumption) | assumption); obtain ⟨ad237, e237, hx237_0⟩ := Kd.at_string (Kd.R_reads' HO_7.out).2.2 x8_1 p237 q237; obtain rfl : ad229 = ad237 := (by injection e237); replace p237 := eq_true p237; replace q237 := eq_true q237; have hnb56 := NB217_225.out; have hnc56 := NB225_217.out; have hcz57_0 : w55.cell? ⟨gb217, 0, none⟩ = some (.int .u8 x218000_1) := (blk_cell BK217.out 0).trans rfl; have hcz57_1 : w55.cell? ⟨gb217, 1, none⟩ = some (.string x218001_1) := (blk_cell BK217.out 1).trans rfl; have hcz57_2 : w55.cell? ⟨gb217, 2, none⟩ = some (.bool x218002_1) := (blk_cell BK217.out 2).trans rfl; have hcz57_3 : w55.cell? ⟨gb217, 3, none⟩ = some (.bool x218003_1) := (blk_cell BK217.out 3).trans rfl; have hcz57_4 : w55.cell? ⟨gb217, 4, none⟩ = some (.int .u64 x218004_1) := (blk_cell BK217.out 4).trans rfl; have hfz57_0 := blk_frozen BK217.out 0; have hfz57_1 := blk_frozen BK217.out 1; have hfz57_2 := blk_frozen BK217.out 2; have hfz57_3 := blk_frozen BK217.out 3; have hfz57_4 := blk_frozen BK217.out 4))
                                    refine bodyPost_ret (results_ct rfl _ _ gb217 25 #[.int .u8 9, .string (⟨#[]⟩ : ByteArray), .bool false, .bool false, .int .u64 t235] (0, 0) _ rfl (by (with_reducible repeat (first | refine blk_drewN ?_ _ | refine blk_drew ?_ | refine blk_alloc ?_ _)); refine blk_put (cs := #[.int .u8 9, .string (⟨#[]⟩ : ByteArray), .bool false, .bool false, .int .u64 x218004_1]) ?_ 4 _ rfl; (with_reducible repeat (first | refine blk_drewN ?_ _ | refine blk_drew ?_ | refine blk_alloc ?_ _)); refine blk_put (cs := #[.int .u8 9, .string (⟨#[]⟩ : ByteArray), .bool false, .bool x218003_1, .int .u64 x218004_1]) ?_ 3 _ rfl; (with_reducible repeat (first | refine blk_drewN ?_ _ | refine blk_drew ?_ | refine blk_alloc ?_ _)); refine blk_put (cs := #[.int .u8 9, .string (⟨#[]⟩ : ByteArray), .bool x218002_1, .bool x218003_1, .int .u64 x218004_1]) ?_ 2 _ rfl; (with_reducible repeat (first | refine blk_drewN ?_ _ | refine blk_drew ?_ | refine blk_alloc ?_ _)); refine blk_put (cs := #[.int .u8 9, .string x218001_1, .bool x218002_1, .bool x218003_1, .int .u64 x218004_1]) ?_ 1 _ rfl; (with_reducible repeat (first | refine blk_drewN ?_ _ | refine blk_drew ?_ | refine blk_alloc ?_ _)); refine blk_put (cs := #[.int .u8 x218000_1, .string x218001_1, .bool x218002_1, .bool x218003_1, .int .u64 x218004_1]) ?_ 0 _ rfl; (with_reducible repeat (first | refine blk_drewN ?_ _ | refine blk_drew ?_ | refine blk_alloc ?_ _)); exact BK217.out) Tryd.underlying25 rfl (by kernel_rfl)) rfl ?_
                                    all_goals exact ⟨by first | rfl | (simp [errW_none, errW_some] <;> rfl) | (simp [*, errW_none, errW_some] <;> rfl), by repeat (first | (with_reducible first | exact HB.out | apply below_alloc | apply pw_below_drewN | apply below_drew1 | refine below_set ?_ GE217.out | refine below_set ?_ GE225.out) | exact HB.out)⟩
                                · rw [if_neg c50] at H
                                  exact absurd H (by simp)
                              · rw [if_neg c49] at H
                                exact absurd H (by simp)
                            · replace c48 := Bool.eq_false_iff.mpr c48
                              subst c48
                              have H1 : (some (0, (⟨#[]⟩ : ByteArray), false, false, 0, false)) = some (r1, r2, r3, r4, r5, r6) := by rw [if_neg (show ¬ (false = true) by decide)] at H; exact H
                              clear H
                              have H := H1
                              clear H1
                              simp only [Option.some.injEq, Prod.mk.injEq] at H
                              obtain ⟨rfl, rfl, rfl, rfl, rfl, rfl⟩ := H
                              go_wp2_with (first | ((with_reducible refine gate_callee (f := 41) rfl ?_); refine goesL_ (some 71) rfl rfl Tryd.func41 (by kernel_rfl) rfl #[.string t230] rfl (by (try simp only [List.map_toArray, List.map_cons, List.map_nil]); first | done | rfl | (simp only [List.length_drop, List.length_take]; rfl)) ?_; (with_reducible refine (tipstaffref17_mask.calls kj43 t230 t235 false _ A47.out).mono ?_); rintro e w58 ⟨rfl, hb⟩; refine ⟨_, rfl, ?_⟩; have n0_ := Aside0.mk (Kd.R_below (by (with_reducible repeat (first | apply Kd.R_alloc | apply Kd.R_drewN | apply Kd.R_drew)); exact HO_7.out) hb); have n1_ := Aside0.mk (blk_below (g := gb217) (o := .cells #[.int .u8 x218000_1, .string x218001_1, .bool x218002_1, .bool x218003_1, .int .u64 x218004_1] 25 (0, 0)) (by (with_reducible repeat (first | refine blk_drewN ?_ _ | refine blk_drew ?_ | refine blk_alloc ?_ _)); exact BK217.out) hb); have n2_ := Aside0.mk (blk_below (g := gb225) (o := .cells #[.int .u8 t219, .string t220, .bool t221, .bool t222, .int .u64 t223] 25 (0, 0)) (by (with_reducible repeat (first | refine blk_drewN ?_ _ | refine blk_drew ?_ | refine blk_alloc ?_ _)); exact BK225.out) hb); have n3_ := Aside0.mk (below_step (by repeat (first | (with_reducible first | exact HB.out | apply below_alloc | apply pw_below_drewN | apply below_drew1 | refine below_set ?_ GE217.out | refine below_set ?_ GE225.out) | exact HB.out)) hb); clear HO_7; clear BK217; clear BK225; clear HB; have HO_7 := n0_; have BK217 := n1_; have BK225 := n2_; have HB := n3_; clear n0_ n1_ n2_ n3_; (try clear hb); (try clear hb2); (try clear hk); (try clear hi); have hnb59 := NB217_225.out; have hnc59 := NB225_217.out; have hcz60_0 : w58.cell? ⟨gb217, 0, none⟩ = some (.int .u8 x218000_1) := (blk_cell BK217.out 0).trans rfl; have hcz60_1 : w58.cell? ⟨gb217, 1, none⟩ = some (.string x218001_1) := (blk_cell BK217.out 1).trans rfl; have hcz60_2 : w58.cell? ⟨gb217, 2, none⟩ = some (.bool x218002_1) := (blk_cell BK217.out 2).trans rfl; have hcz60_3 : w58.cell? ⟨gb217, 3, none⟩ = some (.bool x218003_1) := (blk_cell BK217.out 3).trans rfl; have hcz60_4 : w58.cell? ⟨gb217, 4, none⟩ = some (.int .u64 x218004_1) := (blk_cell BK217.out 4).trans rfl; have hfz60_0 := blk_frozen BK217.out 0; have hfz60_1 := blk_frozen BK217.out 1; have hfz60_2 := blk_frozen BK217.out 2; have hfz60_3 := blk_frozen BK217.out 3; have hfz60_4 := blk_frozen BK217.out 4))
                              refine bodyPost_ret (results_ct rfl _ _ gb217 25 #[.int .u8 0, .string (⟨#[]⟩ : ByteArray), .bool false, .bool false, .int .u64 0] (0, 0) _ rfl (by (with_reducible repeat (first | refine blk_drewN ?_ _ | refine blk_drew ?_ | refine blk_alloc ?_ _)); refine blk_put (cs := #[.int .u8 0, .string (⟨#[]⟩ : ByteArray), .bool false, .bool false, .int .u64 x218004_1]) ?_ 4 _ rfl; (with_reducible repeat (first | refine blk_drewN ?_ _ | refine blk_drew ?_ | refine blk_alloc ?_ _)); refine blk_put (cs := #[.int .u8 0, .string (⟨#[]⟩ : ByteArray), .bool false, .bool x218003_1, .int .u64 x218004_1]) ?_ 3 _ rfl; (with_reducible repeat (first | refine blk_drewN ?_ _ | refine blk_drew ?_ | refine blk_alloc ?_ _)); refine blk_put (cs := #[.int .u8 0, .string (⟨#[]⟩ : ByteArray), .bool x218002_1, .bool x218003_1, .int .u64 x218004_1]) ?_ 2 _ rfl; (with_reducible repeat (first | refine blk_drewN ?_ _ | refine blk_drew ?_ | refine blk_alloc ?_ _)); refine blk_put (cs := #[.int .u8 0, .string x218001_1, .bool x218002_1, .bool x218003_1, .int .u64 x218004_1]) ?_ 1 _ rfl; (with_reducible repeat (first | refine blk_drewN ?_ _ | refine blk_drew ?_ | refine blk_alloc ?_ _)); refine blk_put (cs := #[.int .u8 x218000_1, .string x218001_1, .bool x218002_1, .bool x218003_1, .int .u64 x218004_1]) ?_ 0 _ rfl; (with_reducible repeat (first | refine blk_drewN ?_ _ | refine blk_drew ?_ | refine blk_alloc ?_ _)); exact BK217.out) Tryd.underlying25 rfl (by kernel_rfl)) rfl ?_
                              all_goals exact ⟨by first | rfl | (simp [errW_none, errW_some] <;> rfl) | (simp [*, errW_none, errW_some] <;> rfl), by repeat (first | (with_reducible first | exact HB.out | apply below_alloc | apply pw_below_drewN | apply below_drew1 | refine below_set ?_ GE217.out | refine below_set ?_ GE225.out) | exact HB.out)⟩
                          · replace c46 := Bool.eq_false_iff.mpr c46
                            subst c46
                            have H1 : (if (rdOf ByteArray.empty y226 x8_1).toList = ([38] : List UInt8) then ((tipstaffref17_pattern.f kj43 12 t230 false false).bind fun bt238 => (some (bt238.1, bt238.2.1, bt238.2.2.1, bt238.2.2.2.1, bt238.2.2.2.2.1, bt238.2.2.2.2.2))) else (if 0 ≤ x8_1 then (if x8_1 < (y226.length : Int) then ((tipstaffref17_pattern.f kj43 10 t230 ((rdOf ByteArray.empty y226 x8_1).toList != ([37, 87, 126] : List UInt8)) ((rdOf ByteArray.empty y226 x8_1).toList != ([37, 82, 126] : List UInt8))).bind fun bt246 => (some (bt246.1, bt246.2.1, bt246.2.2.1, bt246.2.2.2.1, bt246.2.2.2.2.1, bt246.2.2.2.2.2))) else (none)) else (none))) = some (r1, r2, r3, r4, r5, r6) := by rw [if_neg (show ¬ (false = true) by decide)] at H; exact H
                            clear H
                            have H := H1
                            clear H1
                            by_cases c61 : (rdOf ByteArray.empty y226 x8_1).toList = ([38] : List UInt8)
                            · rw [if_pos c61] at H
                              have c61b0 : ((rdOf ByteArray.empty y226 x8_1).toList == ([38] : List UInt8)) = true := beq_iff_eq.mpr c61
                              have c61b1 : ((rdOf ByteArray.empty y226 x8_1).toList != ([38] : List UInt8)) = false := bne_eq_false_iff_eq.mpr c61
                              clear c61
                              replace H := Option.bind_eq_some_iff.mp H
                              obtain ⟨⟨t238, t239, t240, t241, t242, t243⟩, A620, H⟩ := H
                              replace H : (some (t238, t239, t240, t241, t242, t243)) = some (r1, r2, r3, r4, r5, r6) := H
                              have A62 := Aside0.mk A620
                              clear A620
                              simp only [Option.some.injEq, Prod.mk.injEq] at H
                              obtain ⟨rfl, rfl, rfl, rfl, rfl, rfl⟩ := H
                              go_wp2_with (first | ((with_reducible refine gate_callee (f := 42) rfl ?_); refine goesL_ (some 89) rfl rfl Tryd.func42 (by kernel_rfl) rfl #[.int .u8 12, .string t230, .bool false, .bool false] rfl (by (try simp only [List.map_toArray, List.map_cons, List.map_nil]); first | done | rfl | (simp only [List.length_drop, List.length_take]; rfl)) ?_; (with_reducible refine (tipstaffref17_pattern.calls kj43 12 t230 false false t238 t239 t240 t241 t242 t243 _ A62.out).mono ?_); rintro e w63 ⟨rfl, hb⟩; refine ⟨_, rfl, ?_⟩; have n0_ := Aside0.mk (Kd.R_below (by (with_reducible repeat (first | apply Kd.R_alloc | apply Kd.R_drewN | apply Kd.R_drew)); exact HO_7.out) hb); have n1_ := Aside0.mk (blk_below (g := gb217) (o := .cells #[.int .u8 x218000_1, .string x218001_1, .bool x218002_1, .bool x218003_1, .int .u64 x218004_1] 25 (0, 0)) (by (with_reducible repeat (first | refine blk_drewN ?_ _ | refine blk_drew ?_ | refine blk_alloc ?_ _)); exact BK217.out) hb); have n2_ := Aside0.mk (blk_below (g := gb225) (o := .cells #[.int .u8 t219, .string t220, .bool t221, .bool t222, .int .u64 t223] 25 (0, 0)) (by (with_reducible repeat (first | refine blk_drewN ?_ _ | refine blk_drew ?_ | refine blk_alloc ?_ _)); exact BK225.out) hb); have n3_ := Aside0.mk (below_step (by repeat (first | (with_reducible first | exact HB.out | apply below_alloc | apply pw_below_drewN | apply below_drew1 | refine below_set ?_ GE217.out | refine below_set ?_ GE225.out) | exact HB.out)) hb); clear HO_7; clear BK217; clear BK225; clear HB; have HO_7 := n0_; have BK217 := n1_; have BK225 := n2_; have HB := n3_; clear n0_ n1_ n2_ n3_; (try clear hb); (try clear hb2); (try clear hk); (try clear hi); have hnb64 := NB217_225.out; have hnc64 := NB225_217.out; have hcz65_0 : w63.cell? ⟨gb217, 0, none⟩ = some (.int .u8 x218000_1) := (blk_cell BK217.out 0).trans rfl; have hcz65_1 : w63.cell? ⟨gb217, 1, none⟩ = some (.string x218001_1) := (blk_cell BK217.out 1).trans rfl; have hcz65_2 : w63.cell? ⟨gb217, 2, none⟩ = some (.bool x218002_1) := (blk_cell BK217.out 2).trans rfl; have hcz65_3 : w63.cell? ⟨gb217, 3, none⟩ = some (.bool x218003_1) := (blk_cell BK217.out 3).trans rfl; have hcz65_4 : w63.cell? ⟨gb217, 4, none⟩ = some (.int .u64 x218004_1) := (blk_cell BK217.out 4).trans rfl; have hfz65_0 := blk_frozen BK217.out 0; have hfz65_1 := blk_frozen BK217.out 1; have hfz65_2 := blk_frozen BK217.out 2; have hfz65_3 := blk_frozen BK217.out 3; have hfz65_4 := blk_frozen BK217.out 4))
                              refine bodyPost_ret (results_ct rfl _ _ gb217 25 #[.int .u8 t238, .string t239, .bool t240, .bool t241, .int .u64 t242] (0, 0) _ rfl (by (with_reducible repeat (first | refine blk_drewN ?_ _ | refine blk_drew ?_ | refine blk_alloc ?_ _)); refine blk_put (cs := #[.int .u8 t238, .string t239, .bool t240, .bool t241, .int .u64 x218004_1]) ?_ 4 _ rfl; (with_reducible repeat (first | refine blk_drewN ?_ _ | refine blk_drew ?_ | refine blk_alloc ?_ _)); refine blk_put (cs := #[.int .u8 t238, .string t239, .bool t240, .bool x218003_1, .int .u64 x218004_1]) ?_ 3 _ rfl; (with_reducible repeat (first | refine blk_drewN ?_ _ | refine blk_drew ?_ | refine blk_alloc ?_ _)); refine blk_put (cs := #[.int .u8 t238, .string t239, .bool x218002_1, .bool x218003_1, .int .u64 x218004_1]) ?_ 2 _ rfl; (with_reducible repeat (first | refine blk_drewN ?_ _ | refine blk_drew ?_ | refine blk_alloc ?_ _)); refine blk_put (cs := #[.int .u8 t238, .string x218001_1, .bool x218002_1, .bool x218003_1, .int .u64 x218004_1]) ?_ 1 _ rfl; (with_reducible repeat (first | refine blk_drewN ?_ _ | refine blk_drew ?_ | refine blk_alloc ?_ _)); refine blk_put (cs := #[.int .u8 x218000_1, .string x218001_1, .bool x218002_1, .bool x218003_1, .int .u64 x218004_1]) ?_ 0 _ rfl; (with_reducible repeat (first | refine blk_drewN ?_ _ | refine blk_drew ?_ | refine blk_alloc ?_ _)); exact BK217.out) Tryd.underlying25 rfl (by kernel_rfl)) rfl ?_
                              all_goals exact ⟨by first | rfl | (simp [errW_none, errW_some] <;> rfl) | (simp [*, errW_none, errW_some] <;> rfl), by repeat (first | (with_reducible first | exact HB.out | apply below_alloc | apply pw_below_drewN | apply below_drew1 | refine below_set ?_ GE217.out | refine below_set ?_ GE225.out) | exact HB.out)⟩
                            · rw [if_neg c61] at H
                              have c61b0 : ((rdOf ByteArray.empty y226 x8_1).toList == ([38] : List UInt8)) = false := beq_eq_false_iff_ne.mpr c61
                              have c61b1 : ((rdOf ByteArray.empty y226 x8_1).toList != ([38] : List UInt8)) = true := bne_iff_ne.mpr c61
                              by_cases c66 : 0 ≤ x8_1
                              · rw [if_pos c66] at H
                                have c66b0 : decide (0 ≤ x8_1) = true := decide_eq_true c66
                                clear c66
                                by_cases c67 : x8_1 < (y226.length : Int)
                                · rw [if_pos c67] at H
                                  have c67b0 : decide (x8_1 < (y226.length : Int)) = true := decide_eq_true c67
                                  clear c67
                                  replace H := Option.bind_eq_some_iff.mp H
                                  obtain ⟨⟨t246, t247, t248, t249, t250, t251⟩, A680, H⟩ := H
                                  replace H : (some (t246, t247, t248, t249, t250, t251)) = some (r1, r2, r3, r4, r5, r6) := H
                                  have A68 := Aside0.mk A680
                                  clear A680
                                  simp only [Option.some.injEq, Prod.mk.injEq] at H
                                  obtain ⟨rfl, rfl, rfl, rfl, rfl, rfl⟩ := H
                                  try go_wp2
                                  have n0_ := Aside0.mk (Kd.R_drew HO_7.out)
                                  have n1_ := Aside0.mk (blk_drew BK217.out)
                                  have n2_ := Aside0.mk (blk_drew BK225.out)
                                  have n3_ := Aside0.mk (below_drew1 HB.out)
                                  clear HO_7
                                  clear BK217
                                  clear BK225
                                  clear HB
                                  have HO_7 := n0_
                                  have BK217 := n1_
                                  have BK225 := n2_
                                  have HB := n3_
                                  clear n0_ n1_ n2_ n3_
                                  have p244 : 0 ≤ (x8_1 : Int) := of_decide_eq_true (by first | (with_reducible assumption) | assumption)
                                  have q244 : x8_1 < (y226.length : Int) := of_decide_eq_true (by first | (with_reducible assumption) | assumption)
                                  obtain ⟨ad244, e244, hx244_0⟩ := Kd.at_string (Kd.R_reads' HO_7.out).2.2 x8_1 p244 q244
                                  obtain rfl : ad229 = ad244 := (by injection e244)
                                  replace p244 := eq_true p244
                                  replace q244 := eq_true q244
                                  have p245 : 0 ≤ (x8_1 : Int) := of_decide_eq_true (by first | (with_reducible assumption) | assumption)
                                  have q245 : x8_1 < (y226.length : Int) := of_decide_eq_true (by first | (with_reducible assumption) | assumption)
                                  obtain ⟨ad245, e245, hx245_0⟩ := Kd.at_string (Kd.R_reads' HO_7.out).2.2 x8_1 p245 q245
                                  obtain rfl : ad229 = ad245 := (by injection e245)
                                  replace p245 := eq_true p245
                                  replace q245 := eq_true q245
                                  refine start_ (n := 16) (S := fun w' => w'.cell? (ad229.add (x8_1).toNat) = some (.string (rdOf ByteArray.empty y226 x8_1)) ∧ w'.cell? (ad229.add (x8_1).toNat) = some (.string (rdOf ByteArray.empty y226 x8_1))) (ds := []) #[false, false, false, false, false, false, false, false, false, false, false, false, false, false, false, false] (by kernel_rfl) rfl rfl ⟨hx244_0, hx245_0⟩ (fun hHeld => ?_); refine with_tabW tipstaffref17_Parse.tab32 tipstaffref17_Parse.bits32 (fun HT_ HW_ => ?_)
                                  generalize wc.drew = w69 at HO_7 BK217 BK225 HB hx244_0 hx245_0 hHeld ⊢
                                  refine pure_ (i := 0) (N := some 92) (v := ?_) (a' := ?_) #[true, false, false, false, false, false, false, false, false, false, false, false, false, false, false, false] rfl rfl (any_of HT_.out (by kernel_rfl)) (fun _ _ _ h => h) (Or.inl ⟨by rfl, ?_⟩) ?_ ?_
                                  rotate_left
                                  · intro w'
                                    go_simp
                                    with_reducible rfl
                                  rotate_left
                                  · simp only [Act.put, List.setIfInBounds_toArray, List.set_cons_zero, List.set_cons_succ, i64_w, i32_w]
                                    rfl
                                  refine pure_ (i := 1) (N := some 93) (v := ?_) (a' := ?_) #[true, true, false, false, false, false, false, false, false, false, false, false, false, false, false, false] rfl rfl (any_of HT_.out (by kernel_rfl)) (fun _ _ _ h => h) (Or.inl ⟨by rfl, ?_⟩) ?_ ?_
                                  rotate_left
                                  · intro w'
                                    go_simp
                                    with_reducible rfl
                                  rotate_left
                                  · simp only [Act.put, List.setIfInBounds_toArray, List.set_cons_zero, List.set_cons_succ, i64_w, i32_w]
                                    rfl
                                  refine pure_ (i := 2) (N := some 94) (v := ?_) (a' := ?_) #[true, true, true, false, false, false, false, false, false, false, false, false, false, false, false, false] rfl rfl (any_of HT_.out (by kernel_rfl)) (fun _ _ _ h => h) (Or.inl ⟨by rfl, ?_⟩) ?_ ?_
                                  rotate_left
                                  · intro w'
                                    go_simp
                                    with_reducible rfl
                                  rotate_left
                                  · simp only [Act.put, List.setIfInBounds_toArray, List.set_cons_zero, List.set_cons_succ, i64_w, i32_w]
                                    rfl
                                  refine pure_ (i := 3) (N := some 95) (v := ?_) (a' := ?_) #[true, true, true, true, false, false, false, false, false, false, false, false, false, false, false, false] rfl rfl (any_of HT_.out (by kernel_rfl)) (fun _ _ _ h => h) (Or.inl ⟨by rfl, ?_⟩) ?_ ?_
                                  rotate_left
                                  · intro w'
                                    go_simp
                                    with_reducible rfl
                                  rotate_left
                                  · simp only [Act.put, List.setIfInBounds_toArray, List.set_cons_zero, List.set_cons_succ, i64_w, i32_w]
                                    rfl
                                  refine pure_ (i := 6) (N := some 98) (v := ?_) (a' := ?_) #[true, true, true, true, false, false, true, false, false, false, false, false, false, false, false, false] rfl rfl (any_of HT_.out (by kernel_rfl)) (fun _ _ _ h => h) (Or.inl ⟨by rfl, ?_⟩) ?_ ?_
                                  rotate_left
                                  · intro w'
                                    go_simp
                                    with_reducible rfl
                                  rotate_left
                                  · simp only [Act.put, List.setIfInBounds_toArray, List.set_cons_zero, List.set_cons_succ, i64_w, i32_w]
                                    rfl
                                  refine pure_ (i := 7) (N := some 99) (v := ?_) (a' := ?_) #[true, true, true, true, false, false, true, true, false, false, false, false, false, false, false, false] rfl rfl (any_of HT_.out (by kernel_rfl)) (fun _ _ _ h => h) (Or.inl ⟨by rfl, ?_⟩) ?_ ?_
                                  rotate_left
                                  · intro w'
                                    go_simp
                                    with_reducible rfl
                                  rotate_left
                                  · simp only [Act.put, List.setIfInBounds_toArray, List.set_cons_zero, List.set_cons_succ, i64_w, i32_w]
                                    rfl
                                  refine pure_ (i := 8) (N := some 100) (v := ?_) (a' := ?_) #[true, true, true, true, false, false, true, true, true, false, false, false, false, false, false, false] rfl rfl (any_of HT_.out (by kernel_rfl)) (fun _ _ _ h => h) (Or.inl ⟨by rfl, ?_⟩) ?_ ?_
                                  rotate_left
                                  · intro w'
                                    go_simp
                                    with_reducible rfl
                                  rotate_left
                                  · simp only [Act.put, List.setIfInBounds_toArray, List.set_cons_zero, List.set_cons_succ, i64_w, i32_w]
                                    rfl
                                  refine take_ (i := 4) (N := some 96) (v := ?_) (a' := ?_) #[true, true, true, true, true, false, true, true, true, false, false, false, false, false, false, false] rfl rfl (take_ofW HT_.out HW_.out (by kernel_rfl)) (fun _ _ _ h => h) (Or.inl ⟨by rfl, ?_⟩) hHeld ?_ ?_
                                  rotate_left
                                  · rintro w' ⟨s0, s1⟩
                                    go_simp
                                    with_reducible rfl
                                  rotate_left
                                  · simp only [Act.put, List.setIfInBounds_toArray, List.set_cons_zero, List.set_cons_succ, i64_w, i32_w]
                                    rfl
                                  refine pure_ (i := 5) (N := some 97) (v := ?_) (a' := ?_) #[true, true, true, true, true, true, true, true, true, false, false, false, false, false, false, false] rfl rfl (any_of HT_.out (by kernel_rfl)) (fun _ _ _ h => h) (Or.inl ⟨by rfl, ?_⟩) ?_ ?_
                                  rotate_left
                                  · intro w'
                                    go_simp
                                    with_reducible rfl
                                  rotate_left
                                  · simp only [Act.put, List.setIfInBounds_toArray, List.set_cons_zero, List.set_cons_succ, i64_w, i32_w]
                                    rfl
                                  refine take_ (i := 9) (N := some 101) (v := ?_) (a' := ?_) #[true, true, true, true, true, true, true, true, true, true, false, false, false, false, false, false] rfl rfl (take_ofW HT_.out HW_.out (by kernel_rfl)) (fun _ _ _ h => h) (Or.inl ⟨by rfl, ?_⟩) hHeld ?_ ?_
                                  rotate_left
                                  · rintro w' ⟨s0, s1⟩
                                    go_simp
                                    with_reducible rfl
                                  rotate_left
                                  · simp only [Act.put, List.setIfInBounds_toArray, List.set_cons_zero, List.set_cons_succ, i64_w, i32_w]
                                    rfl
                                  refine pure_ (i := 10) (N := some 102) (v := ?_) (a' := ?_) #[true, true, true, true, true, true, true, true, true, true, true, false, false, false, false, false] rfl rfl (any_of HT_.out (by kernel_rfl)) (fun _ _ _ h => h) (Or.inl ⟨by rfl, ?_⟩) ?_ ?_
                                  rotate_left
                                  · intro w'
                                    go_simp
                                    with_reducible rfl
                                  rotate_left
                                  · simp only [Act.put, List.setIfInBounds_toArray, List.set_cons_zero, List.set_cons_succ, i64_w, i32_w]
                                    rfl
                                  refine one_ (i := 11) (N := some 103) #[true, true, true, true, true, true, true, true, true, true, true, true, false, false, false, false] rfl rfl (one_of HT_.out (by kernel_rfl)) (by decide) (fun K hK => ?_)
                                  refine goes_ Tryd.func42 (by kernel_rfl) rfl #[.int .u8 10, .string t230, .bool ((rdOf ByteArray.empty y226 x8_1).toList != ([37, 87, 126] : List UInt8)), .bool ((rdOf ByteArray.empty y226 x8_1).toList != ([37, 82, 126] : List UInt8))] (by rfl) rfl rfl (by (try simp only [List.map_toArray, List.map_cons, List.map_nil]); first | done | rfl | (simp only [List.length_drop, List.length_take]; rfl)) ?_
                                  with_reducible refine (tipstaffref17_pattern.calls kj43 10 t230 ((rdOf ByteArray.empty y226 x8_1).toList != ([37, 87, 126] : List UInt8)) ((rdOf ByteArray.empty y226 x8_1).toList != ([37, 82, 126] : List UInt8)) t246 t247 t248 t249 t250 t251 _ A68.out).mono ?_
                                  rintro e w70 ⟨rfl, hb⟩
                                  have HS0_ := (hb.cell (World.block_lt_of_cell? _ _ (hHeld.1))).trans (hHeld.1)
                                  have HS1_ := (hb.cell (World.block_lt_of_cell? _ _ (hHeld.2))).trans (hHeld.2)
                                  refine ⟨_, rfl, ?_⟩
                                  have n0_ := Aside0.mk (Kd.R_below (by (with_reducible repeat (first | apply Kd.R_alloc | apply Kd.R_drewN | apply Kd.R_drew)); exact HO_7.out) hb)
                                  have n1_ := Aside0.mk (blk_below (g := gb217) (o := .cells #[.int .u8 x218000_1, .string x218001_1, .bool x218002_1, .bool x218003_1, .int .u64 x218004_1] 25 (0, 0)) (by (with_reducible repeat (first | refine blk_drewN ?_ _ | refine blk_drew ?_ | refine blk_alloc ?_ _)); exact BK217.out) hb)
                                  have n2_ := Aside0.mk (blk_below (g := gb225) (o := .cells #[.int .u8 t219, .string t220, .bool t221, .bool t222, .int .u64 t223] 25 (0, 0)) (by (with_reducible repeat (first | refine blk_drewN ?_ _ | refine blk_drew ?_ | refine blk_alloc ?_ _)); exact BK225.out) hb)
                                  have n3_ := Aside0.mk (below_step (by repeat (first | (with_reducible first | exact HB.out | apply below_alloc | apply pw_below_drewN | apply below_drew1 | refine below_set ?_ GE217.out | refine below_set ?_ GE225.out) | exact HB.out)) hb)
                                  clear HO_7
                                  clear BK217
                                  clear BK225
                                  clear HB
                                  have HO_7 := n0_
                                  have BK217 := n1_
                                  have BK225 := n2_
                                  have HB := n3_
                                  clear n0_ n1_ n2_ n3_
                                  (try clear hb)
                                  (try clear hb2)
                                  (try clear hk)
                                  (try clear hi)
                                  refine hK.out _ _ ⟨HS0_, HS1_⟩ (fun hHeld => ?_)
                                  clear hK K
                                  refine norm_ (a' := ?_) ?_ ?_
                                  rotate_left
                                  · show Act.put _ (some 103) _ = _
                                    simp only [Act.put, List.setIfInBounds_toArray, List.set_cons_zero, List.set_cons_succ, i64_w, i32_w]
                                    rfl
                                  refine pure_ (i := 12) (N := some 104) (v := ?_) (a' := ?_) #[true, true, true, true, true, true, true, true, true, true, true, true, true, false, false, false] rfl rfl (any_of HT_.out (by kernel_rfl)) (fun _ _ _ h => h) (Or.inl ⟨by rfl, ?_⟩) ?_ ?_
                                  rotate_left
                                  · intro w'
                                    go_simp
                                    with_reducible rfl
                                  rotate_left
                                  · simp only [Act.put, List.setIfInBounds_toArray, List.set_cons_zero, List.set_cons_succ, i64_w, i32_w]
                                    rfl
                                  refine pure_ (i := 13) (N := some 105) (v := ?_) (a' := ?_) #[true, true, true, true, true, true, true, true, true, true, true, true, true, true, false, false] rfl rfl (any_of HT_.out (by kernel_rfl)) (fun _ _ _ h => h) (Or.inl ⟨by rfl, ?_⟩) ?_ ?_
                                  rotate_left
                                  · intro w'
                                    go_simp
                                    with_reducible rfl
                                  rotate_left
                                  · simp only [Act.put, List.setIfInBounds_toArray, List.set_cons_zero, List.set_cons_succ, i64_w, i32_w]
                                    rfl
                                  refine one_ (i := 14) (N := none) #[true, true, true, true, true, true, true, true, true, true, true, true, true, true, true, false] rfl rfl (one_of HT_.out (by kernel_rfl)) (by decide) (fun K hK => ?_)
                                  have hs71 : w70.cell? ⟨gb217, 0, none⟩ = some (.int .u8 x218000_1) := (blk_cell BK217.out 0).trans rfl
                                  have hfs71 := blk_frozen BK217.out 0
                                  have hns71_1 := NB225_217.out
                                  have hms71_1 := NB217_225.out
                                  have hs72 : w70.cell? ⟨gb217, 1, none⟩ = some (.string x218001_1) := (blk_cell BK217.out 1).trans rfl
                                  have hfs72 := blk_frozen BK217.out 1
                                  have hns72_1 := NB225_217.out
                                  have hms72_1 := NB217_225.out
                                  have hs73 : w70.cell? ⟨gb217, 2, none⟩ = some (.bool x218002_1) := (blk_cell BK217.out 2).trans rfl
                                  have hfs73 := blk_frozen BK217.out 2
                                  have hns73_1 := NB225_217.out
                                  have hms73_1 := NB217_225.out
                                  have hs74 : w70.cell? ⟨gb217, 3, none⟩ = some (.bool x218003_1) := (blk_cell BK217.out 3).trans rfl
                                  have hfs74 := blk_frozen BK217.out 3
                                  have hns74_1 := NB225_217.out
                                  have hms74_1 := NB217_225.out
                                  have hs75 : w70.cell? ⟨gb217, 4, none⟩ = some (.int .u64 x218004_1) := (blk_cell BK217.out 4).trans rfl
                                  have hfs75 := blk_frozen BK217.out 4
                                  have hns75_1 := NB225_217.out
                                  have hms75_1 := NB217_225.out
                                  refine skip_ (w1 := ?_) (by rfl) rfl ?_ ?_
                                  rotate_left
                                  · go_simp
                                    rfl
                                  refine hK.out _ _ ⟨((cell_far (p := ⟨gb217, _, none⟩) (by first | exact Kd.own_blk (Kd.R_ne HO_7.out BK217.out (by decide)) | (rw [add_block]; exact Kd.own_blk (Kd.R_ne HO_7.out BK217.out (by decide))) | (show (Addr.add _ _).block ≠ _; rw [add_block]; exact Kd.own_blk (Kd.R_ne HO_7.out BK217.out (by decide))) | (dsimp only; exact Kd.own_blk (Kd.R_ne HO_7.out BK217.out (by decide)))) _).trans (((cell_far (p := ⟨gb217, _, none⟩) (by first | exact Kd.own_blk (Kd.R_ne HO_7.out BK217.out (by decide)) | (rw [add_block]; exact Kd.own_blk (Kd.R_ne HO_7.out BK217.out (by decide))) | (show (Addr.add _ _).block ≠ _; rw [add_block]; exact Kd.own_blk (Kd.R_ne HO_7.out BK217.out (by decide))) | (dsimp only; exact Kd.own_blk (Kd.R_ne HO_7.out BK217.out (by decide)))) _).trans (((cell_far (p := ⟨gb217, _, none⟩) (by first | exact Kd.own_blk (Kd.R_ne HO_7.out BK217.out (by decide)) | (rw [add_block]; exact Kd.own_blk (Kd.R_ne HO_7.out BK217.out (by decide))) | (show (Addr.add _ _).block ≠ _; rw [add_block]; exact Kd.own_blk (Kd.R_ne HO_7.out BK217.out (by decide))) | (dsimp only; exact Kd.own_blk (Kd.R_ne HO_7.out BK217.out (by decide)))) _).trans (((cell_far (p := ⟨gb217, _, none⟩) (by first | exact Kd.own_blk (Kd.R_ne HO_7.out BK217.out (by decide)) | (rw [add_block]; exact Kd.own_blk (Kd.R_ne HO_7.out BK217.out (by decide))) | (show (Addr.add _ _).block ≠ _; rw [add_block]; exact Kd.own_blk (Kd.R_ne HO_7.out BK217.out (by decide))) | (dsimp only; exact Kd.own_blk (Kd.R_ne HO_7.out BK217.out (by decide)))) _).trans (((cell_far (p := ⟨gb217, _, none⟩) (by first | exact Kd.own_blk (Kd.R_ne HO_7.out BK217.out (by decide)) | (rw [add_block]; exact Kd.own_blk (Kd.R_ne HO_7.out BK217.out (by decide))) | (show (Addr.add _ _).block ≠ _; rw [add_block]; exact Kd.own_blk (Kd.R_ne HO_7.out BK217.out (by decide))) | (dsimp only; exact Kd.own_blk (Kd.R_ne HO_7.out BK217.out (by decide)))) _).trans (hHeld.1)))))))))), ((cell_far (p := ⟨gb217, _, none⟩) (by first | exact Kd.own_blk (Kd.R_ne HO_7.out BK217.out (by decide)) | (rw [add_block]; exact Kd.own_blk (Kd.R_ne HO_7.out BK217.out (by decide))) | (show (Addr.add _ _).block ≠ _; rw [add_block]; exact Kd.own_blk (Kd.R_ne HO_7.out BK217.out (by decide))) | (dsimp only; exact Kd.own_blk (Kd.R_ne HO_7.out BK217.out (by decide)))) _).trans (((cell_far (p := ⟨gb217, _, none⟩) (by first | exact Kd.own_blk (Kd.R_ne HO_7.out BK217.out (by decide)) | (rw [add_block]; exact Kd.own_blk (Kd.R_ne HO_7.out BK217.out (by decide))) | (show (Addr.add _ _).block ≠ _; rw [add_block]; exact Kd.own_blk (Kd.R_ne HO_7.out BK217.out (by decide))) | (dsimp only; exact Kd.own_blk (Kd.R_ne HO_7.out BK217.out (by decide)))) _).trans (((cell_far (p := ⟨gb217, _, none⟩) (by first | exact Kd.own_blk (Kd.R_ne HO_7.out BK217.out (by decide)) | (rw [add_block]; exact Kd.own_blk (Kd.R_ne HO_7.out BK217.out (by decide))) | (show (Addr.add _ _).block ≠ _; rw [add_block]; exact Kd.own_blk (Kd.R_ne HO_7.out BK217.out (by decide))) | (dsimp only; exact Kd.own_blk (Kd.R_ne HO_7.out BK217.out (by decide)))) _).trans (((cell_far (p := ⟨gb217, _, none⟩) (by first | exact Kd.own_blk (Kd.R_ne HO_7.out BK217.out (by decide)) | (rw [add_block]; exact Kd.own_blk (Kd.R_ne HO_7.out BK217.out (by decide))) | (show (Addr.add _ _).block ≠ _; rw [add_block]; exact Kd.own_blk (Kd.R_ne HO_7.out BK217.out (by decide))) | (dsimp only; exact Kd.own_blk (Kd.R_ne HO_7.out BK217.out (by decide)))) _).trans (((cell_far (p := ⟨gb217, _, none⟩) (by first | exact Kd.own_blk (Kd.R_ne HO_7.out BK217.out (by decide)) | (rw [add_block]; exact Kd.own_blk (Kd.R_ne HO_7.out BK217.out (by decide))) | (show (Addr.add _ _).block ≠ _; rw [add_block]; exact Kd.own_blk (Kd.R_ne HO_7.out BK217.out (by decide))) | (dsimp only; exact Kd.own_blk (Kd.R_ne HO_7.out BK217.out (by decide)))) _).trans (hHeld.2))))))))))⟩ (fun hHeld => ?_)
                                  clear hK K
                                  refine pure_ (i := 15) (N := some 3) (v := ?_) (a' := ?_) #[true, true, true, true, true, true, true, true, true, true, true, true, true, true, true, true] rfl rfl (any_of HT_.out (by kernel_rfl)) (fun _ _ _ h => h) (Or.inl ⟨by rfl, ?_⟩) ?_ ?_
                                  rotate_left
                                  · intro w'
                                    go_simp
                                    with_reducible rfl
                                  rotate_left
                                  · simp only [Act.put, List.setIfInBounds_toArray, List.set_cons_zero, List.set_cons_succ, i64_w, i32_w]
                                    rfl
                                  refine done_ (done_of HT_.out (by kernel_rfl)) ?_
                                  try go_wp2
                                  refine bodyPost_ret (results_ct rfl _ _ gb217 25 #[.int .u8 t246, .string t247, .bool t248, .bool t249, .int .u64 t250] (0, 0) _ rfl (by (with_reducible repeat (first | refine blk_drewN ?_ _ | refine blk_drew ?_ | refine blk_alloc ?_ _)); refine blk_put (cs := #[.int .u8 t246, .string t247, .bool t248, .bool t249, .int .u64 x218004_1]) ?_ 4 _ rfl; (with_reducible repeat (first | refine blk_drewN ?_ _ | refine blk_drew ?_ | refine blk_alloc ?_ _)); refine blk_put (cs := #[.int .u8 t246, .string t247, .bool t248, .bool x218003_1, .int .u64 x218004_1]) ?_ 3 _ rfl; (with_reducible repeat (first | refine blk_drewN ?_ _ | refine blk_drew ?_ | refine blk_alloc ?_ _)); refine blk_put (cs := #[.int .u8 t246, .string t247, .bool x218002_1, .bool x218003_1, .int .u64 x218004_1]) ?_ 2 _ rfl; (with_reducible repeat (first | refine blk_drewN ?_ _ | refine blk_drew ?_ | refine blk_alloc ?_ _)); refine blk_put (cs := #[.int .u8 t246, .string x218001_1, .bool x218002_1, .bool x218003_1, .int .u64 x218004_1]) ?_ 1 _ rfl; (with_reducible repeat (first | refine blk_drewN ?_ _ | refine blk_drew ?_ | refine blk_alloc ?_ _)); refine blk_put (cs := #[.int .u8 x218000_1, .string x218001_1, .bool x218002_1, .bool x218003_1, .int .u64 x218004_1]) ?_ 0 _ rfl; (with_reducible repeat (first | refine blk_drewN ?_ _ | refine blk_drew ?_ | refine blk_alloc ?_ _)); exact BK217.out) Tryd.underlying25 rfl (by kernel_rfl)) rfl ?_
                                  all_goals exact ⟨by first | rfl | (simp [errW_none, errW_some] <;> rfl) | (simp [*, errW_none, errW_some] <;> rfl), by repeat (first | (with_reducible first | exact HB.out | apply below_alloc | apply pw_below_drewN | apply below_drew1 | refine below_set ?_ GE217.out | refine below_set ?_ GE225.out) | exact HB.out)⟩
                                · rw [if_neg c67] at H
                                  exact absurd H (by simp)
                              · rw [if_neg c66] at H
                                exact absurd H (by simp)
            · replace c21 := Bool.eq_false_iff.mpr c21
              subst c21
              have H1 : (tipstaffref17_Parse.l0 k1 t218 y226 (wrap64 (x8_1 + 1))) = some (r1, r2, r3, r4, r5, r6) := by rw [if_neg (show ¬ (false = true) by decide)] at H; exact H
              clear H
              have H := H1
              clear H1
              have H' := Aside0.mk H
              clear H
              obtain ⟨Ao76, co76, eo76⟩ := Kd.R_slice HO_7.out
              subst eo76
              have p229 : 0 ≤ (x8_1 : Int) := of_decide_eq_true (by first | (with_reducible assumption) | assumption)
              have q229 : x8_1 < (y226.length : Int) := of_decide_eq_true (by first | (with_reducible assumption) | assumption)
              obtain ⟨ad229, e229, hx229_0⟩ := Kd.at_string (Kd.R_reads' HO_7.out).2.2 x8_1 p229 q229
              cases e229
              replace p229 := eq_true p229
              replace q229 := eq_true q229
              go_wp2_with (first | ((with_reducible refine gate_callee (f := 40) rfl ?_); refine goesL_ (some 36) rfl rfl Tryd.func40 (by kernel_rfl) rfl #[.string t218, .string (rdOf ByteArray.empty y226 x8_1)] rfl (by (try simp only [List.map_toArray, List.map_cons, List.map_nil]); first | done | rfl | (simp only [List.length_drop, List.length_take]; rfl)) ?_; (with_reducible refine (tipstaffref17_begins.calls t218 (rdOf ByteArray.empty y226 x8_1) t230 false _ A20.out).mono ?_); rintro e w' ⟨rfl, ⟨nd, rfl⟩⟩; refine ⟨_, rfl, ?_⟩))
              go_roundg k1
              case measure => have := HK1.out; omega
              case rel => exact ⟨(wrap64 (x8_1 + 1)), (x218000_1), (x218001_1), (x218002_1), (x218003_1), (x218004_1), (by first | rfl | (simp; done) | (simp [*]; done)), H', ⟨by have := HK1.out; omega⟩, ⟨by (with_reducible repeat (first | apply Kd.R_alloc | apply Kd.R_drewN | apply Kd.R_drew)); exact HO_7.out⟩, ⟨by (with_reducible repeat (first | refine blk_drewN ?_ _ | refine blk_drew ?_ | refine blk_alloc ?_ _)); exact BK217.out⟩, ⟨by (with_reducible repeat (first | refine blk_drewN ?_ _ | refine blk_drew ?_ | refine blk_alloc ?_ _)); exact BK225.out⟩, ⟨by repeat (first | (with_reducible first | exact HB.out | apply below_alloc | apply pw_below_drewN | apply below_drew1 | refine below_set ?_ GE217.out | refine below_set ?_ GE225.out) | exact HB.out)⟩⟩
          · rw [if_neg c19] at H
            exact absurd H (by simp)
        · rw [if_neg c18] at H
          have c18b0 : decide (x8_1 < (y226.length : Int)) = false := decide_eq_false c18
          clear c18
          simp only [Option.some.injEq, Prod.mk.injEq] at H
          obtain ⟨rfl, rfl, rfl, rfl, rfl, rfl⟩ := H
          obtain ⟨Ao77, co77, eo77⟩ := Kd.R_slice HO_7.out
          subst eo77
          have hnb78 := NB217_225.out
          have hnc78 := NB225_217.out
          have hcz79_0 : wr.cell? ⟨gb217, 0, none⟩ = some (.int .u8 x218000_1) := (blk_cell BK217.out 0).trans rfl
          have hcz79_1 : wr.cell? ⟨gb217, 1, none⟩ = some (.string x218001_1) := (blk_cell BK217.out 1).trans rfl
          have hcz79_2 : wr.cell? ⟨gb217, 2, none⟩ = some (.bool x218002_1) := (blk_cell BK217.out 2).trans rfl
          have hcz79_3 : wr.cell? ⟨gb217, 3, none⟩ = some (.bool x218003_1) := (blk_cell BK217.out 3).trans rfl
          have hcz79_4 : wr.cell? ⟨gb217, 4, none⟩ = some (.int .u64 x218004_1) := (blk_cell BK217.out 4).trans rfl
          have hfz79_0 := blk_frozen BK217.out 0
          have hfz79_1 := blk_frozen BK217.out 1
          have hfz79_2 := blk_frozen BK217.out 2
          have hfz79_3 := blk_frozen BK217.out 3
          have hfz79_4 := blk_frozen BK217.out 4
          go_wp2
          refine bodyPost_ret (results_ct rfl _ _ gb217 25 #[.int .u8 0, .string (⟨#[]⟩ : ByteArray), .bool false, .bool false, .int .u64 0] (0, 0) _ rfl (by (with_reducible repeat (first | refine blk_drewN ?_ _ | refine blk_drew ?_ | refine blk_alloc ?_ _)); refine blk_put (cs := #[.int .u8 0, .string (⟨#[]⟩ : ByteArray), .bool false, .bool false, .int .u64 x218004_1]) ?_ 4 _ rfl; (with_reducible repeat (first | refine blk_drewN ?_ _ | refine blk_drew ?_ | refine blk_alloc ?_ _)); refine blk_put (cs := #[.int .u8 0, .string (⟨#[]⟩ : ByteArray), .bool false, .bool x218003_1, .int .u64 x218004_1]) ?_ 3 _ rfl; (with_reducible repeat (first | refine blk_drewN ?_ _ | refine blk_drew ?_ | refine blk_alloc ?_ _)); refine blk_put (cs := #[.int .u8 0, .string (⟨#[]⟩ : ByteArray), .bool x218002_1, .bool x218003_1, .int .u64 x218004_1]) ?_ 2 _ rfl; (with_reducible repeat (first | refine blk_drewN ?_ _ | refine blk_drew ?_ | refine blk_alloc ?_ _)); refine blk_put (cs := #[.int .u8 0, .string x218001_1, .bool x218002_1, .bool x218003_1, .int .u64 x218004_1]) ?_ 1 _ rfl; (with_reducible repeat (first | refine blk_drewN ?_ _ | refine blk_drew ?_ | refine blk_alloc ?_ _)); refine blk_put (cs := #[.int .u8 x218000_1, .string x218001_1, .bool x218002_1, .bool x218003_1, .int .u64 x218004_1]) ?_ 0 _ rfl; (with_reducible repeat (first | refine blk_drewN ?_ _ | refine blk_drew ?_ | refine blk_alloc ?_ _)); exact BK217.out) Tryd.underlying25 rfl (by kernel_rfl)) rfl ?_
          all_goals exact ⟨by first | rfl | (simp [errW_none, errW_some] <;> rfl) | (simp [*, errW_none, errW_some] <;> rfl), by repeat (first | (with_reducible first | exact HB.out | apply below_alloc | apply pw_below_drewN | apply below_drew1 | refine below_set ?_ GE217.out | refine below_set ?_ GE225.out) | exact HB.out)⟩

end Go.Proofs.YtencimfeipglaaaDoor.X
