-- Written by a program of the session (wip/xprint.py): the kit's printer, beside contracts of the session's own.
import Derived.Test.YtmhdkjihhdljlaaXx12p0
import Derived.Test.YtmhdkjihhdljlaaXx12p1
import Derived.Test.YtmhdkjihhdljlaaXx12p2
import Derived.Test.YtmhdkjihhdljlaaXx12p3
import Derived.Test.YtmhdkjihhdljlaaXx12p4
import Derived.Test.YtmhdkjihhdljlaaXx12p5
namespace Go.Proofs.Ytmhdkjihhdljlaa.X
open Go.RowKit Go.Proofs.YtmhdkjihhdljlaaW.PrintWords Go.Proofs.YtmhdkjihhdljlaaW.PrintLast Go.Proofs.YtmhdkjihhdljlaaW.PrintMore
attribute [local go_sem] binOp_str_gtr binOp_str_leq binOp_str_geq max2_int min2_int max_two min_two max_three min_three max_four min_four   -- for this text's walks alone
set_option linter.unusedVariables false
set_option linter.unusedSimpArgs false
theorem tipstaffref09_Fit.calls (k : Nat) (a0_0 : Int) (a0_1 : ByteArray) (A0_2 : Option Addr) (c0_2 : Nat) (l0_2 : List ByteArray) (A0_3 : Option Addr) (c0_3 : Nat) (l0_3 : List (S66)) (A0_4 : Option Addr) (c0_4 : Nat) (l0_4 : List (S69)) (r1 : Int) (r2 : ByteArray) (r3 : List ByteArray) (r4 : List (S66)) (r5 : List (S69)) (w : World) (hr0_2 : Kd.C Kd.string w A0_2 l0_2.length l0_2) (hc0_2 : l0_2.length ≤ c0_2) (hr0_3 : Kd.C k66 w A0_3 l0_3.length l0_3) (hc0_3 : l0_3.length ≤ c0_3) (hr0_4 : Kd.C k69 w A0_4 l0_4.length l0_4) (hc0_4 : l0_4.length ≤ c0_4) (h : tipstaffref09_Fit.f k a0_0 a0_1 l0_2 l0_3 l0_4 = some (r1, r2, r3, r4, r5)) :
    Calls Try.prog 11 #[.agg #[.int .u8 a0_0, .string a0_1, .slice A0_2 l0_2.length c0_2, .slice A0_3 l0_3.length c0_3, .slice A0_4 l0_4.length c0_4]] w fun e w' => ∃ v2_ v3_ v4_ : Value, e = .returned (.agg #[.int .u8 r1, .string r2, v2_, v3_, v4_]) ∧ Kd.R Kd.string 9 w' w.heap.size (fun _ => True) v2_ r3 ∧ Kd.R k66 66 w' w.heap.size (fun _ => True) v3_ r4 ∧ Kd.R k69 69 w' w.heap.size (fun _ => True) v4_ r5 ∧ Below w.heap.size w w' := by
  by_cases h_c5 : (Int.tmod a0_0 6) = 1
  · exact tipstaffref09_Fit.part0 k a0_0 a0_1 A0_2 c0_2 l0_2 A0_3 c0_3 l0_3 A0_4 c0_4 l0_4 r1 r2 r3 r4 r5 w hr0_2 hc0_2 hr0_3 hc0_3 hr0_4 hc0_4 h h_c5
  · by_cases h_c19 : (Int.tmod a0_0 6) = 2
    · exact tipstaffref09_Fit.part1 k a0_0 a0_1 A0_2 c0_2 l0_2 A0_3 c0_3 l0_3 A0_4 c0_4 l0_4 r1 r2 r3 r4 r5 w hr0_2 hc0_2 hr0_3 hc0_3 hr0_4 hc0_4 h h_c5 h_c19
    · by_cases h_c56 : (Int.tmod a0_0 6) = 4
      · exact tipstaffref09_Fit.part2 k a0_0 a0_1 A0_2 c0_2 l0_2 A0_3 c0_3 l0_3 A0_4 c0_4 l0_4 r1 r2 r3 r4 r5 w hr0_2 hc0_2 hr0_3 hc0_3 hr0_4 hc0_4 h h_c5 h_c19 h_c56
      · by_cases h_c91 : (Int.tmod a0_0 6) = 3
        · exact tipstaffref09_Fit.part3 k a0_0 a0_1 A0_2 c0_2 l0_2 A0_3 c0_3 l0_3 A0_4 c0_4 l0_4 r1 r2 r3 r4 r5 w hr0_2 hc0_2 hr0_3 hc0_3 hr0_4 hc0_4 h h_c5 h_c19 h_c56 h_c91
        · by_cases h_c151 : (Int.tmod a0_0 6) = 5
          · exact tipstaffref09_Fit.part4 k a0_0 a0_1 A0_2 c0_2 l0_2 A0_3 c0_3 l0_3 A0_4 c0_4 l0_4 r1 r2 r3 r4 r5 w hr0_2 hc0_2 hr0_3 hc0_3 hr0_4 hc0_4 h h_c5 h_c19 h_c56 h_c91 h_c151
          · exact tipstaffref09_Fit.part5 k a0_0 a0_1 A0_2 c0_2 l0_2 A0_3 c0_3 l0_3 A0_4 c0_4 l0_4 r1 r2 r3 r4 r5 w hr0_2 hc0_2 hr0_3 hc0_3 hr0_4 hc0_4 h h_c5 h_c19 h_c56 h_c91 h_c151
end Go.Proofs.Ytmhdkjihhdljlaa.X
