/- What value.rises gives of rows of pairs, and of marks, with their orders. -/
import Derived.Test.YtbbgiedfkklojaaERises
import Derived.Test.YtbbgiedfkklojaaXx10
import Derived.Test.YtbbgiedfkklojaaXx10
import Derived.Deep.RegionHeld3
set_option linter.unusedVariables false
set_option linter.unusedSimpArgs false
namespace Go.Proofs.Ytbbgiedfkklojaa.X
open Go.RowKit Go.Lib Go.Proofs.YtbbgiedfkklojaaW.PrintWords Go.Proofs.YtbbgiedfkklojaaW.PrintLast Go.Proofs.YtbbgiedfkklojaaW.PrintMore

def risesG {α : Type} (lt : α → α → Bool) : List α → Bool
  | a :: b :: r => lt a b && risesG lt (b :: r)
  | _ => true
theorem risesG_step {α : Type} (lt : α → α → Bool) (l : List α) (i : Nat) (h : i + 1 < l.length) : risesG lt (l.drop i) = (lt l[i] l[i + 1] && risesG lt (l.drop (i + 1))) := by
  have e1 : l.drop i = l[i] :: l.drop (i + 1) := List.drop_eq_getElem_cons (by omega)
  have e2 : l.drop (i + 1) = l[i + 1] :: l.drop (i + 1 + 1) := List.drop_eq_getElem_cons h
  rw [e1, e2]
  rfl
theorem risesG_end {α : Type} (lt : α → α → Bool) (l : List α) (i : Nat) (h : l.length ≤ i + 1) : risesG lt (l.drop i) = true := by
  have hl : (l.drop i).length ≤ 1 := by rw [List.length_drop]; omega
  match h2 : l.drop i with
  | [] => rfl
  | [_] => rfl
  | _ :: _ :: _ => rw [h2] at hl; simp at hl

def ordPair (a b : S60) : Int := cmpB a.f0 b.f0
theorem byName_calls (a b : S60) (w : World) :
    Calls Try.prog 66 #[.agg #[.string a.f0, .string a.f1], .agg #[.string b.f0, .string b.f1]] w fun e w' => e = .returned (.int .i64 (ordPair a b)) ∧ Below w.heap.size w w' :=
  value_byName.calls a.f0 a.f1 b.f0 b.f1 (ordPair a b) w rfl
def cmpI (a b : Int) : Int := if a < b then -1 else if b < a then 1 else 0
def ordMark (a b : S62) : Int := if cmpI a.f1 b.f1 = 0 then cmpB a.f0 b.f0 else cmpI a.f1 b.f1
theorem or_f (x y : Int) : cmp_Or_int.f 5 [x, y] = some (if x = 0 then y else x) := by
  unfold cmp_Or_int.f
  simp only [cmp_Or_int.l0, List.length_cons, List.length_nil]
  by_cases hx : x = 0
  · by_cases hy : y = 0 <;> simp [hx, hy, rd, wrap64]
  · simp [hx, rd]
theorem byMark_calls (a b : S62) (w : World) :
    Calls Try.prog 68 #[.agg #[.string a.f0, .int .i64 a.f1], .agg #[.string b.f0, .int .i64 b.f1]] w fun e w' => e = .returned (.int .i64 (ordMark a b)) ∧ Below w.heap.size w w' := by
  refine value_byMark.calls 5 a.f0 a.f1 b.f0 b.f1 (ordMark a b) w ?_
  have hc : cmp_Compare_int.f a.f1 b.f1 = some (cmpI a.f1 b.f1) := by
    unfold cmp_Compare_int.f cmp_isNaN_int.f cmpI
    simp only [Option.bind_some]
    by_cases h1 : a.f1 < b.f1
    · simp [h1]
    · by_cases h2 : b.f1 < a.f1 <;> simp [h1, h2]
  unfold value_byMark.f
  rw [hc]
  simp only [Option.bind_some, cmp_Compare_string.f, or_f]
  rfl

def risesPair (l : List S60) : Bool := risesG (fun a b => decide (ordPair a b < 0)) l
theorem rd_Pair (x : List S60) (i : Nat) (h : i < x.length) : rd_T60 x (i : Int) = x[i] := by
  unfold rd_T60; rw [Int.toNat_natCast, List.getD_eq_getElem?_getD, List.getElem?_eq_getElem h]; rfl
set_option maxHeartbeats 1000000 in
set_option maxRecDepth 100000 in
theorem rises_Pair (A : Option Addr) (c : Nat) (l : List S60) (w : World) (hr : Kd.C k60 w A l.length l) (hc : l.length ≤ c) :
    Calls Try.prog 65 #[.slice A l.length c, .func (.func 66) #[] #[]] w fun e w' => e = .returned (.bool (risesPair l)) ∧ Below w.heap.size w w' := by
  have HR := Aside0.mk hr
  clear hr
  by_cases h0 : l.length ≤ 1
  · have hB := Aside0.mk (show risesPair l = true from risesG_end _ l 0 (by omega))
    have q1 : (l.length : Int) ≤ 1 := by omega
    go_enter Try.func65, Try.ntmps65
    go_wp2
    all_goals
      go_loop [12] (fun v => v = .int .i64 0) (fun _ => 0)
      case atStart => rfl
      case round =>
        obtain rfl := hrel
        go_wp2
        go_ret
        exact ⟨by rw [hB.out] <;> rfl, Below.refl _ _⟩
  · have q1 : ¬ (l.length : Int) ≤ 1 := by omega
    have q2 : (1 : Int) ≤ (l.length : Int) := by omega
    have q3 : (1 : Int) ≤ (c : Int) := by omega
    have q4 : ¬ c = 1 := by omega
    go_enter Try.func65, Try.ntmps65
    go_wp2
    obtain ⟨m, hm⟩ : ∃ m, m = l.length - 1 := ⟨_, rfl⟩
    rw [← hm]
    have HM := Aside0.mk hm
    clear hm
    go_loopg [12] (m + 1) (fun kq v w' => ∃ i : Nat, v = .int .i64 (i : Int) ∧ Aside0 (i + kq = m + 1 ∧ 1 ≤ kq) ∧ Aside0 (risesPair l = risesPair (l.drop i)) ∧ Aside0 (Below w.heap.size w w'))
    case atStart => exact ⟨0, rfl, ⟨by omega, by omega⟩, ⟨rfl⟩, ⟨Below.refl _ _⟩⟩
    case round =>
      obtain ⟨i, rfl, HI, HRs, HB⟩ := hrel
      cases gk with
      | zero => exact absurd HI.out.2 (by omega)
      | succ k1 =>
        by_cases hlt : i < m
        · have hl1 : i + 1 < l.length := by have := HM.out; omega
          have hst : risesPair (l.drop i) = (decide (ordPair (rd_T60 l (i : Int)) (rd_T60 l ((i : Int) + 1)) < 0) && risesPair (l.drop (i + 1))) := by
            rw [rd_Pair l i (by omega), show ((i : Int) + 1) = ((i + 1 : Nat) : Int) by omega, rd_Pair l (i + 1) hl1]
            exact risesG_step _ l i hl1
          have p160 : 0 ≤ (i : Int) := by omega
          have q160 : (i : Int) < (l.length : Int) := by omega
          obtain ⟨ad160, e160, hx160, hy160⟩ := at_T60 HR.out (i : Int) p160 q160
          cases e160
          have p161 : 0 ≤ (i : Int) + 1 := by omega
          have q161 : (i : Int) + 1 < (l.length : Int) := by omega
          obtain ⟨ad161, e161, hx161, hy161⟩ := at_T60 HR.out ((i : Int) + 1) p161 q161
          obtain rfl : ad160 = ad161 := by injection e161
          clear e161
          rw [Int.toNat_natCast] at hx160 hy160
          rw [show ((i : Int) + 1).toNat = i + 1 by omega] at hx161 hy161
          have hw : IntKind.i64.wrap ((i : Int) + 1) = (i : Int) + 1 := IntWalk.i64_in _ (by have := HR.out.2.1; omega)
          generalize rd_T60 l (i : Int) = x at *
          generalize rd_T60 l ((i : Int) + 1) = y at *
          have HH := Aside0.mk (fun (wz : World) (hz : Below w.heap.size w wz) => show wz.cell? (ad160.add (i * 2)) = some (.string x.f0) ∧ wz.cell? ⟨(ad160.add (i * 2)).block, (ad160.add (i * 2)).off + 1, none⟩ = some (.string x.f1) ∧ wz.cell? (ad160.add ((i + 1) * 2)) = some (.string y.f0) ∧ wz.cell? ⟨(ad160.add ((i + 1) * 2)).block, (ad160.add ((i + 1) * 2)).off + 1, none⟩ = some (.string y.f1) ∧ wz.cell? ⟨ad160.block, ad160.off + (i + 1) * 2, none⟩ = some (.string y.f0) ∧ wz.cell? ⟨ad160.block, ad160.off + (i + 1) * 2 + 1, none⟩ = some (.string y.f1) from
            ⟨(hz.cell (World.block_lt_of_cell? w _ hx160)).trans hx160, (hz.cell (World.block_lt_of_cell? w _ hy160)).trans hy160, (hz.cell (World.block_lt_of_cell? w _ hx161)).trans hx161, (hz.cell (World.block_lt_of_cell? w _ hy161)).trans hy161, (show _ from (hz.cell (World.block_lt_of_cell? w _ hx161)).trans hx161), (show _ from (hz.cell (World.block_lt_of_cell? w _ hy161)).trans hy161)⟩)
          clear hx160 hy160 hx161 hy161
          obtain ⟨d, hd⟩ : ∃ d, d = ordPair x y := ⟨_, rfl⟩
          have E5 : Aside0 (Ending.returned (.int .i64 (ordPair x y)) = Ending.returned (.int .i64 d)) := ⟨by rw [hd]⟩
          by_cases hc0 : 0 ≤ d
          · have HS := Aside0.mk (show risesPair l = false by rw [HRs.out, hst, ← hd, decide_eq_false (by omega)]; rfl)
            clear hst hd
            go_wp2
            go_region_held3 (fun wz => wz.cell? (ad160.add (i * 2)) = some (.string x.f0) ∧ wz.cell? ⟨(ad160.add (i * 2)).block, (ad160.add (i * 2)).off + 1, none⟩ = some (.string x.f1) ∧ wz.cell? (ad160.add ((i + 1) * 2)) = some (.string y.f0) ∧ wz.cell? ⟨(ad160.add ((i + 1) * 2)).block, (ad160.add ((i + 1) * 2)).off + 1, none⟩ = some (.string y.f1) ∧ wz.cell? ⟨ad160.block, ad160.off + (i + 1) * 2, none⟩ = some (.string y.f0) ∧ wz.cell? ⟨ad160.block, ad160.off + (i + 1) * 2 + 1, none⟩ = some (.string y.f1)) (exact HH.out _ (by first | ((repeat (first | (with_reducible first | exact HB.out | apply below_alloc | apply pw_below_drewN | apply below_drew1) | exact HB.out)); done) | ((repeat (first | (with_reducible first | exact HB5.out | apply below_alloc | apply pw_below_drewN | apply below_drew1) | exact HB5.out)); done))) (first
              | (go_at_call 66; (with_reducible refine (byName_calls x y _).mono ?_); rintro e w5 ⟨rfl, hb⟩; have HB5 := Aside0.mk (below_step (by repeat (first | (with_reducible first | exact HB.out | apply below_alloc | apply pw_below_drewN | apply below_drew1) | exact HB.out)) hb); clear hb; rw [E5.out]))
            go_wp2
            go_ret
            exact ⟨by rw [HS.out] <;> rfl, (by repeat (first | (with_reducible first | exact HB5.out | apply below_alloc | apply pw_below_drewN | apply below_drew1) | exact HB5.out))⟩
          · have HS := Aside0.mk (show risesPair l = risesPair (l.drop (i + 1)) by rw [HRs.out, hst, ← hd, decide_eq_true (by omega)]; rfl)
            clear hst hd
            go_wp2
            go_region_held3 (fun wz => wz.cell? (ad160.add (i * 2)) = some (.string x.f0) ∧ wz.cell? ⟨(ad160.add (i * 2)).block, (ad160.add (i * 2)).off + 1, none⟩ = some (.string x.f1) ∧ wz.cell? (ad160.add ((i + 1) * 2)) = some (.string y.f0) ∧ wz.cell? ⟨(ad160.add ((i + 1) * 2)).block, (ad160.add ((i + 1) * 2)).off + 1, none⟩ = some (.string y.f1) ∧ wz.cell? ⟨ad160.block, ad160.off + (i + 1) * 2, none⟩ = some (.string y.f0) ∧ wz.cell? ⟨ad160.block, ad160.off + (i + 1) * 2 + 1, none⟩ = some (.string y.f1)) (exact HH.out _ (by first | ((repeat (first | (with_reducible first | exact HB.out | apply below_alloc | apply pw_below_drewN | apply below_drew1) | exact HB.out)); done) | ((repeat (first | (with_reducible first | exact HB5.out | apply below_alloc | apply pw_below_drewN | apply below_drew1) | exact HB5.out)); done))) (first
              | (go_at_call 66; (with_reducible refine (byName_calls x y _).mono ?_); rintro e w5 ⟨rfl, hb⟩; have HB5 := Aside0.mk (below_step (by repeat (first | (with_reducible first | exact HB.out | apply below_alloc | apply pw_below_drewN | apply below_drew1) | exact HB.out)) hb); clear hb; rw [E5.out]))
            go_wp2
            go_roundg k1
            case measure => omega
            case rel => exact ⟨i + 1, by go_num, ⟨by have := HI.out; omega, by have := HI.out; omega⟩, HS, ⟨(by repeat (first | (with_reducible first | exact HB5.out | apply below_alloc | apply pw_below_drewN | apply below_drew1) | exact HB5.out))⟩⟩
        · have HS := Aside0.mk (show risesPair l = true by rw [HRs.out]; exact risesG_end _ l i (by have := HM.out; omega))
          go_wp2
          go_ret
          exact ⟨by rw [HS.out] <;> rfl, HB.out⟩

def risesMark (l : List S62) : Bool := risesG (fun a b => decide (ordMark a b < 0)) l
theorem rd_Mark (x : List S62) (i : Nat) (h : i < x.length) : rd_T62 x (i : Int) = x[i] := by
  unfold rd_T62; rw [Int.toNat_natCast, List.getD_eq_getElem?_getD, List.getElem?_eq_getElem h]; rfl
set_option maxHeartbeats 1000000 in
set_option maxRecDepth 100000 in
theorem rises_Mark (A : Option Addr) (c : Nat) (l : List S62) (w : World) (hr : Kd.C k62 w A l.length l) (hc : l.length ≤ c) :
    Calls Try.prog 67 #[.slice A l.length c, .func (.func 68) #[] #[]] w fun e w' => e = .returned (.bool (risesMark l)) ∧ Below w.heap.size w w' := by
  have HR := Aside0.mk hr
  clear hr
  by_cases h0 : l.length ≤ 1
  · have hB := Aside0.mk (show risesMark l = true from risesG_end _ l 0 (by omega))
    have q1 : (l.length : Int) ≤ 1 := by omega
    go_enter Try.func67, Try.ntmps67
    go_wp2
    all_goals
      go_loop [12] (fun v => v = .int .i64 0) (fun _ => 0)
      case atStart => rfl
      case round =>
        obtain rfl := hrel
        go_wp2
        go_ret
        exact ⟨by rw [hB.out] <;> rfl, Below.refl _ _⟩
  · have q1 : ¬ (l.length : Int) ≤ 1 := by omega
    have q2 : (1 : Int) ≤ (l.length : Int) := by omega
    have q3 : (1 : Int) ≤ (c : Int) := by omega
    have q4 : ¬ c = 1 := by omega
    go_enter Try.func67, Try.ntmps67
    go_wp2
    obtain ⟨m, hm⟩ : ∃ m, m = l.length - 1 := ⟨_, rfl⟩
    rw [← hm]
    have HM := Aside0.mk hm
    clear hm
    go_loopg [12] (m + 1) (fun kq v w' => ∃ i : Nat, v = .int .i64 (i : Int) ∧ Aside0 (i + kq = m + 1 ∧ 1 ≤ kq) ∧ Aside0 (risesMark l = risesMark (l.drop i)) ∧ Aside0 (Below w.heap.size w w'))
    case atStart => exact ⟨0, rfl, ⟨by omega, by omega⟩, ⟨rfl⟩, ⟨Below.refl _ _⟩⟩
    case round =>
      obtain ⟨i, rfl, HI, HRs, HB⟩ := hrel
      cases gk with
      | zero => exact absurd HI.out.2 (by omega)
      | succ k1 =>
        by_cases hlt : i < m
        · have hl1 : i + 1 < l.length := by have := HM.out; omega
          have hst : risesMark (l.drop i) = (decide (ordMark (rd_T62 l (i : Int)) (rd_T62 l ((i : Int) + 1)) < 0) && risesMark (l.drop (i + 1))) := by
            rw [rd_Mark l i (by omega), show ((i : Int) + 1) = ((i + 1 : Nat) : Int) by omega, rd_Mark l (i + 1) hl1]
            exact risesG_step _ l i hl1
          have p160 : 0 ≤ (i : Int) := by omega
          have q160 : (i : Int) < (l.length : Int) := by omega
          obtain ⟨ad160, e160, hx160, hy160⟩ := at_T62 HR.out (i : Int) p160 q160
          cases e160
          have p161 : 0 ≤ (i : Int) + 1 := by omega
          have q161 : (i : Int) + 1 < (l.length : Int) := by omega
          obtain ⟨ad161, e161, hx161, hy161⟩ := at_T62 HR.out ((i : Int) + 1) p161 q161
          obtain rfl : ad160 = ad161 := by injection e161
          clear e161
          rw [Int.toNat_natCast] at hx160 hy160
          rw [show ((i : Int) + 1).toNat = i + 1 by omega] at hx161 hy161
          have hw : IntKind.i64.wrap ((i : Int) + 1) = (i : Int) + 1 := IntWalk.i64_in _ (by have := HR.out.2.1; omega)
          generalize rd_T62 l (i : Int) = x at *
          generalize rd_T62 l ((i : Int) + 1) = y at *
          have HH := Aside0.mk (fun (wz : World) (hz : Below w.heap.size w wz) => show wz.cell? (ad160.add (i * 2)) = some (.string x.f0) ∧ wz.cell? ⟨(ad160.add (i * 2)).block, (ad160.add (i * 2)).off + 1, none⟩ = some (.int .i64 x.f1) ∧ wz.cell? (ad160.add ((i + 1) * 2)) = some (.string y.f0) ∧ wz.cell? ⟨(ad160.add ((i + 1) * 2)).block, (ad160.add ((i + 1) * 2)).off + 1, none⟩ = some (.int .i64 y.f1) ∧ wz.cell? ⟨ad160.block, ad160.off + (i + 1) * 2, none⟩ = some (.string y.f0) ∧ wz.cell? ⟨ad160.block, ad160.off + (i + 1) * 2 + 1, none⟩ = some (.int .i64 y.f1) from
            ⟨(hz.cell (World.block_lt_of_cell? w _ hx160)).trans hx160, (hz.cell (World.block_lt_of_cell? w _ hy160)).trans hy160, (hz.cell (World.block_lt_of_cell? w _ hx161)).trans hx161, (hz.cell (World.block_lt_of_cell? w _ hy161)).trans hy161, (show _ from (hz.cell (World.block_lt_of_cell? w _ hx161)).trans hx161), (show _ from (hz.cell (World.block_lt_of_cell? w _ hy161)).trans hy161)⟩)
          clear hx160 hy160 hx161 hy161
          obtain ⟨d, hd⟩ : ∃ d, d = ordMark x y := ⟨_, rfl⟩
          have E5 : Aside0 (Ending.returned (.int .i64 (ordMark x y)) = Ending.returned (.int .i64 d)) := ⟨by rw [hd]⟩
          by_cases hc0 : 0 ≤ d
          · have HS := Aside0.mk (show risesMark l = false by rw [HRs.out, hst, ← hd, decide_eq_false (by omega)]; rfl)
            clear hst hd
            go_wp2
            go_region_held3 (fun wz => wz.cell? (ad160.add (i * 2)) = some (.string x.f0) ∧ wz.cell? ⟨(ad160.add (i * 2)).block, (ad160.add (i * 2)).off + 1, none⟩ = some (.int .i64 x.f1) ∧ wz.cell? (ad160.add ((i + 1) * 2)) = some (.string y.f0) ∧ wz.cell? ⟨(ad160.add ((i + 1) * 2)).block, (ad160.add ((i + 1) * 2)).off + 1, none⟩ = some (.int .i64 y.f1) ∧ wz.cell? ⟨ad160.block, ad160.off + (i + 1) * 2, none⟩ = some (.string y.f0) ∧ wz.cell? ⟨ad160.block, ad160.off + (i + 1) * 2 + 1, none⟩ = some (.int .i64 y.f1)) (exact HH.out _ (by first | ((repeat (first | (with_reducible first | exact HB.out | apply below_alloc | apply pw_below_drewN | apply below_drew1) | exact HB.out)); done) | ((repeat (first | (with_reducible first | exact HB5.out | apply below_alloc | apply pw_below_drewN | apply below_drew1) | exact HB5.out)); done))) (first
              | (go_at_call 68; (with_reducible refine (byMark_calls x y _).mono ?_); rintro e w5 ⟨rfl, hb⟩; have HB5 := Aside0.mk (below_step (by repeat (first | (with_reducible first | exact HB.out | apply below_alloc | apply pw_below_drewN | apply below_drew1) | exact HB.out)) hb); clear hb; rw [E5.out]))
            go_wp2
            go_ret
            exact ⟨by rw [HS.out] <;> rfl, (by repeat (first | (with_reducible first | exact HB5.out | apply below_alloc | apply pw_below_drewN | apply below_drew1) | exact HB5.out))⟩
          · have HS := Aside0.mk (show risesMark l = risesMark (l.drop (i + 1)) by rw [HRs.out, hst, ← hd, decide_eq_true (by omega)]; rfl)
            clear hst hd
            go_wp2
            go_region_held3 (fun wz => wz.cell? (ad160.add (i * 2)) = some (.string x.f0) ∧ wz.cell? ⟨(ad160.add (i * 2)).block, (ad160.add (i * 2)).off + 1, none⟩ = some (.int .i64 x.f1) ∧ wz.cell? (ad160.add ((i + 1) * 2)) = some (.string y.f0) ∧ wz.cell? ⟨(ad160.add ((i + 1) * 2)).block, (ad160.add ((i + 1) * 2)).off + 1, none⟩ = some (.int .i64 y.f1) ∧ wz.cell? ⟨ad160.block, ad160.off + (i + 1) * 2, none⟩ = some (.string y.f0) ∧ wz.cell? ⟨ad160.block, ad160.off + (i + 1) * 2 + 1, none⟩ = some (.int .i64 y.f1)) (exact HH.out _ (by first | ((repeat (first | (with_reducible first | exact HB.out | apply below_alloc | apply pw_below_drewN | apply below_drew1) | exact HB.out)); done) | ((repeat (first | (with_reducible first | exact HB5.out | apply below_alloc | apply pw_below_drewN | apply below_drew1) | exact HB5.out)); done))) (first
              | (go_at_call 68; (with_reducible refine (byMark_calls x y _).mono ?_); rintro e w5 ⟨rfl, hb⟩; have HB5 := Aside0.mk (below_step (by repeat (first | (with_reducible first | exact HB.out | apply below_alloc | apply pw_below_drewN | apply below_drew1) | exact HB.out)) hb); clear hb; rw [E5.out]))
            go_wp2
            go_roundg k1
            case measure => omega
            case rel => exact ⟨i + 1, by go_num, ⟨by have := HI.out; omega, by have := HI.out; omega⟩, HS, ⟨(by repeat (first | (with_reducible first | exact HB5.out | apply below_alloc | apply pw_below_drewN | apply below_drew1) | exact HB5.out))⟩⟩
        · have HS := Aside0.mk (show risesMark l = true by rw [HRs.out]; exact risesG_end _ l i (by have := HM.out; omega))
          go_wp2
          go_ret
          exact ⟨by rw [HS.out] <;> rfl, HB.out⟩

def api_Pair_65.f (l0 : List S60) : Option Bool := some (risesPair l0)
theorem api_Pair_65.calls (A0 : Option Addr) (c0 : Nat) (l0 : List S60) (r : Bool) (w : World) (hr0 : Kd.C k60 w A0 l0.length l0) (hc0 : l0.length ≤ c0) (h : api_Pair_65.f l0 = some r) :
    Calls Try.prog 65 #[.slice A0 l0.length c0, .func (.func 66) #[] #[]] w fun e w' => e = .returned (.bool r) ∧ Below w.heap.size w w' := by
  obtain rfl : risesPair l0 = r := Option.some.inj h
  exact rises_Pair A0 c0 l0 w hr0 hc0

def api_Mark_67.f (l0 : List S62) : Option Bool := some (risesMark l0)
theorem api_Mark_67.calls (A0 : Option Addr) (c0 : Nat) (l0 : List S62) (r : Bool) (w : World) (hr0 : Kd.C k62 w A0 l0.length l0) (hc0 : l0.length ≤ c0) (h : api_Mark_67.f l0 = some r) :
    Calls Try.prog 67 #[.slice A0 l0.length c0, .func (.func 68) #[] #[]] w fun e w' => e = .returned (.bool r) ∧ Below w.heap.size w w' := by
  obtain rfl : risesMark l0 = r := Option.some.inj h
  exact rises_Mark A0 c0 l0 w hr0 hc0
end Go.Proofs.Ytbbgiedfkklojaa.X
