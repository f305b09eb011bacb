/- num.Text and num.Parse, as the printed texts take them. -/
import Derived.Test.YtencimfeipglaaaDoorELd
import Derived.Test.YtencimfeipglaaaDoorWWords
import Derived.Lib.AppendIntMem
import Derived.WalkKit
import Derived.Deep.QuietTactic
import Derived.BigQuiet
import Derived.Deep.RegionWith
set_option linter.unusedVariables false
set_option linter.unusedSimpArgs false
namespace Go.Proofs.YtencimfeipglaaaDoor.X
open Go.RowKit Go.Proofs.YtencimfeipglaaaDoorW.PrintWords

theorem toList_data (s : ByteArray) : s.toList = s.data.toList := by
  unfold ByteArray.toList
  rw [Go.ByteArray.toList_loop_eq s s.size 0 [] (by omega) (by omega)]
  simp
theorem str_ext {s t : ByteArray} (h : s.toList = t.toList) : s = t := by
  rw [toList_data, toList_data] at h
  have := Array.toList_inj.1 h
  cases s; cases t; simp_all

def textB (n : Int) : ByteArray := ⟨(Lib.itoa n).toArray⟩
def num_Text.f (a0 : Int) : Option ByteArray := if -9223372036854775808 ≤ a0 ∧ a0 ≤ 9223372036854775807 then some (textB a0) else none

set_option maxHeartbeats 400000 in
theorem num_Text.calls (a0 : Int) (r : ByteArray) (w : World) (hLd : Ld w) (h : num_Text.f a0 = some r) :
    Calls Tryd.prog 52 #[.int .i64 a0] w fun e w' => e = .returned (.string r) ∧ Below w.heap.size w w' := by
  unfold num_Text.f at h
  split at h
  · rename_i hh
    obtain rfl := Option.some.inj h
    obtain ⟨h0, h1⟩ := hh
    have HL := Aside0.mk hLd
    clear hLd h
    go_enter Tryd.func52, Tryd.ntmps52
    go_wp2_with (go_at_call 74; refine (Tryd.strconv_Itoa a0 h0 h1 w HL.out.tab).mono ?_; rintro e w' ⟨rfl, k, os, rfl⟩)
    go_ret
    exact ⟨rfl, Lib.below_grow _ _ (Nat.le_refl _) _ _⟩
  · cases h

def parseB (s : ByteArray) : Int × Bool :=
  match Lib.atoiAll s.data.toList with
  | .ok v => if textB v = s then (v, true) else (0, false)
  | _ => (0, false)
def num_Parse.f (a0 : ByteArray) : Option (Int × Bool) := if a0.size ≤ 140737488355328 then some (parseB a0) else none

set_option maxHeartbeats 400000 in
theorem num_Parse.calls0 (a0 : ByteArray) (r : Int × Bool) (w : World) (hLd : Ld w) (h : num_Parse.f a0 = some r) :
    Calls Tryd.prog 76 #[.string a0] w fun e w' => e = .returned (.tuple #[.int .i64 r.1, .bool r.2]) ∧ Below w.heap.size w w' := by
  unfold num_Parse.f at h
  split at h
  · rename_i hs
    obtain rfl := Option.some.inj h
    have HL := Aside0.mk hLd
    clear hLd h
    cases ha : Lib.atoiAll a0.data.toList
    rotate_left
    · have hr : parseB a0 = (0, false) := by unfold parseB; rw [ha]
      have HR := Aside0.mk hr
      have HA := Aside0.mk ha
      clear hr ha
      obtain ⟨tp, p, hv⟩ := HL.out.syn
      have HV := Aside0.mk hv
      clear hv
      go_enter Tryd.func76, Tryd.ntmps76
      go_wp2_with (go_at_call 95; refine (Any.strconv_Atoi_syntax_var Tryd.laysC172 a0 (by omega) HA.out tp p w HV.out).mono ?_; rintro e w' ⟨n, rfl, _, _, hb⟩; have HB := Aside0.mk hb; clear hb)
      go_ret2
      rw [HR.out]
      exact ⟨rfl, HB.out⟩
    · have hr : parseB a0 = (0, false) := by unfold parseB; rw [ha]
      have HR := Aside0.mk hr
      have HA := Aside0.mk ha
      clear hr ha
      obtain ⟨tp, p, hv⟩ := HL.out.rng
      have HV := Aside0.mk hv
      clear hv
      go_enter Tryd.func76, Tryd.ntmps76
      go_wp2_with (go_at_call 95; refine (Tryd.strconv_Atoi_range_var a0 (by omega) HA.out tp p w HV.out).mono ?_; rintro e w' ⟨n, rfl, _, _, hb⟩; have HB := Aside0.mk hb; clear hb)
      go_ret2
      rw [HR.out]
      exact ⟨rfl, HB.out⟩
    · rename_i v
      obtain ⟨b1, b2⟩ := Lib.atoiAll_bounds ha
      have HT := Aside0.mk (show num_Text.f v = some (textB v) by unfold num_Text.f; rw [if_pos ⟨b1, by omega⟩])
      by_cases he : textB v = a0
      · have hr : parseB a0 = (v, true) := by unfold parseB; rw [ha]; simp only; rw [if_pos he]
        have HR := Aside0.mk hr
        have HA := Aside0.mk ha
        rw [he] at HT
        clear hr ha he
        go_enter Tryd.func76, Tryd.ntmps76
        go_wp2_with fail
        refine (Tryd.strconv_Atoi_ok a0 (by omega) v HA.out w).mono ?_
        rintro e w' ⟨rfl, hw⟩
        have hb : Below w.heap.size w w' := by
          rcases hw with rfl | ⟨t, rfl⟩
          · exact Below.refl _ _
          · exact bytes_below (Below.refl _ _) (Nat.le_refl _) _ _
        have HB := Aside0.mk hb
        clear hb hw
        go_wp2_with fail
        refine (num_Text.calls v a0 w' (HL.out.below HB.out) HT.out).mono ?_
        rintro e w2 ⟨rfl, hb2⟩
        have HB2 := Aside0.mk hb2
        clear hb2
        go_wp2
        go_ret2
        rw [HR.out]
        exact ⟨rfl, below_then HB.out HB.out.size HB2.out⟩
      · have hr : parseB a0 = (0, false) := by unfold parseB; rw [ha]; simp only; rw [if_neg he]
        have HR := Aside0.mk hr
        have HA := Aside0.mk ha
        have hl : ¬ (textB v).toList = a0.toList := fun hh => he (str_ext hh)
        have he3 : ((textB v).toList == a0.toList) = false := beq_eq_false_iff_ne.mpr hl
        have he4 : ((textB v).toList != a0.toList) = true := bne_iff_ne.mpr hl
        clear hr ha he
        go_enter Tryd.func76, Tryd.ntmps76
        go_wp2_with fail
        refine (Tryd.strconv_Atoi_ok a0 (by omega) v HA.out w).mono ?_
        rintro e w' ⟨rfl, hw⟩
        have hb : Below w.heap.size w w' := by
          rcases hw with rfl | ⟨t, rfl⟩
          · exact Below.refl _ _
          · exact bytes_below (Below.refl _ _) (Nat.le_refl _) _ _
        have HB := Aside0.mk hb
        clear hb hw
        go_wp2_with fail
        refine (num_Text.calls v (textB v) w' (HL.out.below HB.out) HT.out).mono ?_
        rintro e w2 ⟨rfl, hb2⟩
        have HB2 := Aside0.mk hb2
        clear hb2
        go_wp2
        go_ret2
        rw [HR.out]
        exact ⟨rfl, below_then HB.out HB.out.size HB2.out⟩
  · cases h
theorem num_Parse.calls (a0 : ByteArray) (r1 : Int) (r2 : Bool) (w : World) (hLd : Ld w) (h : num_Parse.f a0 = some (r1, r2)) :
    Calls Tryd.prog 76 #[.string a0] w fun e w' => e = .returned (.tuple #[.int .i64 r1, .bool r2]) ∧ Below w.heap.size w w' := num_Parse.calls0 a0 (r1, r2) w hLd h
end Go.Proofs.YtencimfeipglaaaDoor.X
