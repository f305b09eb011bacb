-- Written by a program of the session (wip/xprint.py): the kit's printer, beside contracts of the session's own.
import Derived.Test.YtbbgiedfkklojaaXx15p0
import Derived.Test.YtbbgiedfkklojaaXx15p1
import Derived.Test.YtbbgiedfkklojaaXx15p2
import Derived.Test.YtbbgiedfkklojaaXx15p3
import Derived.Test.YtbbgiedfkklojaaXx15p4
import Derived.Test.YtbbgiedfkklojaaXx15p5
import Derived.Test.YtbbgiedfkklojaaXx15p6
namespace Go.Proofs.Ytbbgiedfkklojaa.X
open Go.RowKit Go.Proofs.YtbbgiedfkklojaaW.PrintWords Go.Proofs.YtbbgiedfkklojaaW.PrintLast Go.Proofs.YtbbgiedfkklojaaW.PrintMore
attribute [local go_sem] binOp_str_gtr binOp_str_leq binOp_str_geq max2_int min2_int max_two min_two max_three min_three max_four min_four   -- for this text's walks alone
set_option linter.unusedVariables false
set_option linter.unusedSimpArgs false
theorem value_Right.calls (k : Nat) (a0_0 : Int) (a0_1 : ByteArray) (A0_2 : Option Addr) (c0_2 : Nat) (l0_2 : List ByteArray) (A0_3 : Option Addr) (c0_3 : Nat) (l0_3 : List (S60)) (A0_4 : Option Addr) (c0_4 : Nat) (l0_4 : List (S62)) (r : Bool) (w : World) (hr0_2 : Kd.C Kd.string w A0_2 l0_2.length l0_2) (hc0_2 : l0_2.length ≤ c0_2) (hr0_3 : Kd.C k60 w A0_3 l0_3.length l0_3) (hc0_3 : l0_3.length ≤ c0_3) (hr0_4 : Kd.C k62 w A0_4 l0_4.length l0_4) (hc0_4 : l0_4.length ≤ c0_4) (h : value_Right.f k a0_0 a0_1 l0_2 l0_3 l0_4 = some r) :
    Calls Try.prog 42 #[.agg #[.int .u8 a0_0, .string a0_1, .slice A0_2 l0_2.length c0_2, .slice A0_3 l0_3.length c0_3, .slice A0_4 l0_4.length c0_4]] w fun e w' => e = .returned (.bool r) ∧ Below w.heap.size w w' := by
  by_cases h_c2 : a0_0 = 1
  · exact value_Right.part0 k a0_0 a0_1 A0_2 c0_2 l0_2 A0_3 c0_3 l0_3 A0_4 c0_4 l0_4 r w hr0_2 hc0_2 hr0_3 hc0_3 hr0_4 hc0_4 h h_c2
  · by_cases h_c11 : a0_0 = 2
    · exact value_Right.part1 k a0_0 a0_1 A0_2 c0_2 l0_2 A0_3 c0_3 l0_3 A0_4 c0_4 l0_4 r w hr0_2 hc0_2 hr0_3 hc0_3 hr0_4 hc0_4 h h_c2 h_c11
    · by_cases h_c35 : a0_0 = 4
      · exact value_Right.part2 k a0_0 a0_1 A0_2 c0_2 l0_2 A0_3 c0_3 l0_3 A0_4 c0_4 l0_4 r w hr0_2 hc0_2 hr0_3 hc0_3 hr0_4 hc0_4 h h_c2 h_c11 h_c35
      · by_cases h_c70 : a0_0 = 3
        · exact value_Right.part3 k a0_0 a0_1 A0_2 c0_2 l0_2 A0_3 c0_3 l0_3 A0_4 c0_4 l0_4 r w hr0_2 hc0_2 hr0_3 hc0_3 hr0_4 hc0_4 h h_c2 h_c11 h_c35 h_c70
        · by_cases h_c107 : a0_0 = 5
          · by_cases h_c108 : (l0_4.length : Int) > 0
            · exact value_Right.part4 k a0_0 a0_1 A0_2 c0_2 l0_2 A0_3 c0_3 l0_3 A0_4 c0_4 l0_4 r w hr0_2 hc0_2 hr0_3 hc0_3 hr0_4 hc0_4 h h_c2 h_c11 h_c35 h_c70 h_c107 h_c108
            · exact value_Right.part5 k a0_0 a0_1 A0_2 c0_2 l0_2 A0_3 c0_3 l0_3 A0_4 c0_4 l0_4 r w hr0_2 hc0_2 hr0_3 hc0_3 hr0_4 hc0_4 h h_c2 h_c11 h_c35 h_c70 h_c107 h_c108
          · exact value_Right.part6 k a0_0 a0_1 A0_2 c0_2 l0_2 A0_3 c0_3 l0_3 A0_4 c0_4 l0_4 r w hr0_2 hc0_2 hr0_3 hc0_3 hr0_4 hc0_4 h h_c2 h_c11 h_c35 h_c70 h_c107
end Go.Proofs.Ytbbgiedfkklojaa.X
