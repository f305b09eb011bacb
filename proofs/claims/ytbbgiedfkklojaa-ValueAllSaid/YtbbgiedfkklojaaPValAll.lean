/- Plain: ValueAll answers true; and its row. -/
import Derived.Test.YtbbgiedfkklojaaPRight
import Derived.Test.YtbbgiedfkklojaaOVal
import Derived.Test.YtbbgiedfkklojaaXx23
set_option linter.unusedVariables false
set_option linter.unusedSimpArgs false
namespace Go.Proofs.Ytbbgiedfkklojaa.X
open Go.RowKit Go.Lib Go.Proofs.YtbbgiedfkklojaaW.PrintWords Go.Proofs.YtbbgiedfkklojaaW.PrintMore Go.Proofs.Ytbbgiedfkklojaa

theorem bool_of_iff {a b : Bool} {P : Prop} (h1 : a = true ↔ P) (h2 : b = true ↔ P) : a = b := by
  cases a <;> cases b <;> simp_all

theorem valueAll_true (a0 : Int) (a1 : ByteArray) (l2 : List ByteArray) (l3 : List SP) (l4 : List SM) (b0 : Int) (b1 : ByteArray) (m2 : List ByteArray) (m3 : List SP) (m4 : List SM) (h0 : 0 ≤ a0 ∧ a0 ≤ 255) :
    ∃ k, tipstafflaw09_ValueAll.f k a0 a1 l2 l3 l4 b0 b1 m2 m3 m4 = some true := by
  obtain ⟨k, hk⟩ : ∃ k, k = 5000000 := ⟨_, rfl⟩
  refine ⟨k + 1, ?_⟩
  unfold tipstafflaw09_ValueAll.f
  rw [small_f, small_f]
  simp only [tipstafflaw09_shown.f, Option.bind_some, if_true]
  have n2 : (l2.take 10).length ≤ 10 := by rw [List.length_take]; omega
  have n3 : (l3.take 10).length ≤ 10 := by rw [List.length_take]; omega
  have n4 : (l4.take 10).length ≤ 10 := by rw [List.length_take]; omega
  generalize l2.take 10 = x2 at *
  generalize l3.take 10 = x3 at *
  generalize l4.take 10 = x4 at *
  generalize m2.take 10 = y2 at *
  generalize m3.take 10 = y3 at *
  generalize m4.take 10 = y4 at *
  obtain ⟨r1, e1, i1⟩ := right_f (k + 1) a0 a1 x2 x3 x4 (by omega) (by omega) (by omega) (by omega)
  obtain ⟨r2, e2, i2⟩ := ref_right (k + 1) a0 a1 x2 x3 x4 (by omega) (by omega) (by omega) (by omega)
  obtain ⟨s1, f1, j1⟩ := same_f (k + 1) a0 a1 x2 x3 x4 b0 b1 y2 y3 y4 (by omega) (by omega) (by omega) (by omega) (by omega) (by omega)
  obtain ⟨s2, f2, j2⟩ := ref_same a0 a1 x2 x3 x4 b0 b1 y2 y3 y4 (k + 1) (by omega) (by omega) (by omega) (by omega)
  obtain ⟨s3, f3, j3⟩ := same_f (k + 1) a0 a1 x2 x3 x4 a0 a1 x2 x3 x4 (by omega) (by omega) (by omega) (by omega) (by omega) (by omega)
  obtain rfl : r1 = r2 := bool_of_iff i1 i2
  obtain rfl : s1 = s2 := bool_of_iff j1 j2
  obtain rfl : s3 = true := j3.2 ⟨rfl, rfl, rfl, rfl, rfl⟩
  rw [e1, e2, type_f a0 a1 x2 x3 x4 h0, ref_type, size_f, ref_size, f1, f2, f3]
  simp

theorem valueAll_row (w : World) (x : S26) (cs : Array Value) (y : S26) (ds : Array Value) (kx : k26.K w x cs.toList) (okx : OkVal x) (ky : k26.K w y ds.toList) (oky : OkVal y) :
    Calls Try.prog 11 #[.agg cs, .agg ds] w fun e w' => e = .returned (.bool true) ∧ Below w.heap.size w w' := by
  obtain ⟨A2, c2, A3, c3, A4, c4, h, l2, g2, l3, g3, l4, g4⟩ := k26_open kx
  obtain rfl : cs = #[.int .u8 x.f0, .string x.f1, .slice A2 x.f2.length c2, .slice A3 x.f3.length c3, .slice A4 x.f4.length c4] := Array.toList_inj.1 h
  obtain ⟨B2, d2, B3, d3, B4, d4, h', m2, q2, m3, q3, m4, q4⟩ := k26_open ky
  obtain rfl : ds = #[.int .u8 y.f0, .string y.f1, .slice B2 y.f2.length d2, .slice B3 y.f3.length d3, .slice B4 y.f4.length d4] := Array.toList_inj.1 h'
  have hk := okx.kind
  have h0 : 0 ≤ x.f0 ∧ x.f0 ≤ 255 := by
    have e1 : IntKind.u8.min = 0 := rfl
    have e2 : IntKind.u8.max = 255 := rfl
    simp [Lit.wf, e1, e2] at hk
    exact hk
  obtain ⟨k, hk⟩ := valueAll_true x.f0 x.f1 x.f2 x.f3 x.f4 y.f0 y.f1 y.f2 y.f3 y.f4 h0
  exact tipstafflaw09_ValueAll.calls k x.f0 x.f1 A2 c2 x.f2 A3 c3 x.f3 A4 c4 x.f4 y.f0 y.f1 B2 d2 y.f2 B3 d3 y.f3 B4 d4 y.f4 true w g2 l2 g3 l3 g4 l4 q2 m2 q3 m3 q4 m4 hk rfl
end Go.Proofs.Ytbbgiedfkklojaa.X
