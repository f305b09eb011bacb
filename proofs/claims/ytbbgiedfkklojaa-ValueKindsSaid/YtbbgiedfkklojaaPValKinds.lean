/- Plain: ValueKinds answers true; and its row. -/
import Derived.Test.YtbbgiedfkklojaaPFit
import Derived.Test.YtbbgiedfkklojaaOVal
import Derived.Test.YtbbgiedfkklojaaXx31a
import Derived.Test.YtbbgiedfkklojaaXx31b
set_option linter.unusedVariables false
set_option linter.unusedSimpArgs false
namespace Go.Proofs.Ytbbgiedfkklojaa.X
open Go.RowKit Go.Lib Go.Proofs.YtbbgiedfkklojaaW.PrintWords Go.Proofs.YtbbgiedfkklojaaW.PrintMore Go.Proofs.Ytbbgiedfkklojaa

theorem kind6 {t : Int} (h0 : 0 ≤ t) (h5 : t ≤ 5) : t = 0 ∨ t = 1 ∨ t = 2 ∨ t = 3 ∨ t = 4 ∨ t = 5 := by omega
theorem type_none {t : Int} (h0 : 0 ≤ t) (h5 : t ≤ 5) : ((typeOf t).toList == ([110, 111, 110, 101] : List UInt8)) = (t == 0) := by
  rcases kind6 h0 h5 with rfl | rfl | rfl | rfl | rfl | rfl <;> (simp only [Go.ByteArray.toList_eq]; decide)
theorem type_inj {t u : Int} (h0 : 0 ≤ t) (h5 : t ≤ 5) (g0 : 0 ≤ u) (g5 : u ≤ 5) : ((typeOf t).toList == (typeOf u).toList) = (t == u) := by
  rcases kind6 h0 h5 with rfl | rfl | rfl | rfl | rfl | rfl <;> rcases kind6 g0 g5 with rfl | rfl | rfl | rfl | rfl | rfl <;> (simp only [Go.ByteArray.toList_eq]; decide)
theorem size_none {t : Int} {s : ByteArray} {L : List ByteArray} {H : List SP} {Z : List SM} (h : RightP t s L H Z) : (sizeOf' t L H Z == 0) = (t == 0) := by
  obtain ⟨h0, h5, hz⟩ := size_pos h
  have hn : 0 ≤ sizeOf' t L H Z := by
    unfold sizeOf'
    repeat' split
    all_goals omega
  rw [Bool.eq_iff_iff, beq_iff_eq, beq_iff_eq]
  constructor
  · intro h1
    by_cases ht : t = 0
    · exact ht
    · have := hz.2 ht; omega
  · intro h1
    by_cases hs : 0 < sizeOf' t L H Z
    · exact absurd h1 (hz.1 hs)
    · omega
theorem bool_beq (a : Bool) : (a == a) = true := by cases a <;> rfl

theorem valueKinds_true (a0 : Int) (a1 : ByteArray) (l2 : List ByteArray) (l3 : List SP) (l4 : List SM) (b0 : Int) (b1 : ByteArray) (m2 : List ByteArray) (m3 : List SP) (m4 : List SM) :
    ∃ k t s L H Z u v M J Y, tipstaffref09_Fit.f k a0 a1 l2 l3 l4 = some (t, s, L, H, Z) ∧ tipstaffref09_Fit.f k b0 b1 m2 m3 m4 = some (u, v, M, J, Y) ∧ tipstafflaw09_ValueKinds.f k a0 a1 l2 l3 l4 b0 b1 m2 m3 m4 = some true := by
  obtain ⟨k, hk⟩ : ∃ k, k = 2000 := ⟨_, rfl⟩
  obtain ⟨t, s, L, H, Z, e1, f1⟩ := fit_f (k + 1) a0 a1 l2 l3 l4 (by omega)
  obtain ⟨u, v, M, J, Y, e2, f2⟩ := fit_f (k + 1) b0 b1 m2 m3 m4 (by omega)
  refine ⟨k + 1, t, s, L, H, Z, u, v, M, J, Y, e1, e2, ?_⟩
  have n1 := f1.nl; have n2 := f1.nh; have n3 := f1.nz; have n4 := f2.nl; have n5 := f2.nh; have n6 := f2.nz
  obtain ⟨t0, t5, _⟩ := size_pos f1.right
  obtain ⟨u0, u5, _⟩ := size_pos f2.right
  obtain ⟨s1, g1, i1⟩ := same_f (k + 1) t s L H Z u v M J Y (by omega) (by omega) (by omega) (by omega) (by omega) (by omega)
  obtain ⟨s2, g2, i2⟩ := same_f (k + 1) u v M J Y t s L H Z (by omega) (by omega) (by omega) (by omega) (by omega) (by omega)
  obtain ⟨s3, g3, i3⟩ := same_f (k + 1) t s L H Z ((t + 1) % 256) s L H Z (by omega) (by omega) (by omega) (by omega) (by omega) (by omega)
  have e3 : s3 = false := by
    cases s3 with
    | false => rfl
    | true => exfalso; have h1 := (i3.1 rfl).1; omega
  subst e3
  have e12 : s1 = s2 := by
    have : s1 = true ↔ s2 = true := i1.trans (Iff.trans ⟨fun ⟨a, b, c, d, e⟩ => ⟨a.symm, b.symm, c.symm, d.symm, e.symm⟩, fun ⟨a, b, c, d, e⟩ => ⟨a.symm, b.symm, c.symm, d.symm, e.symm⟩⟩ i2.symm)
    exact Bool.eq_iff_iff.2 this
  subst e12
  unfold tipstafflaw09_ValueKinds.f
  rw [e1, e2]
  simp only [tipstafflaw09_shown.f, Option.bind_some, if_true]
  rw [g1, g2]
  simp only [Option.bind_some, bool_beq, if_true]
  rw [g3, type_f t s L H Z ⟨t0, by omega⟩, type_f u v M J Y ⟨u0, by omega⟩, size_f]
  simp only [Option.bind_some, type_none t0 t5, size_none f1.right, type_inj t0 t5 u0 u5, bool_beq, if_true]
  by_cases htu : t = u
  · rw [if_pos htu]
    simp
  · rw [if_neg htu]
    have e1 : s1 = false := by
      cases s1 with
      | false => rfl
      | true => exact absurd (i1.1 rfl).1 htu
    subst e1
    simp

theorem valueKinds_row (w : World) (x : S26) (cs : Array Value) (y : S26) (ds : Array Value) (kx : k26.K w x cs.toList) (okx : OkVal x) (ky : k26.K w y ds.toList) (oky : OkVal y) :
    Calls Try.prog 12 #[.agg cs, .agg ds] w fun e w' => e = .returned (.bool true) ∧ Below w.heap.size w w' := by
  obtain ⟨A2, c2, A3, c3, A4, c4, h, l2, g2, l3, g3, l4, g4⟩ := k26_open kx
  obtain rfl : cs = #[.int .u8 x.f0, .string x.f1, .slice A2 x.f2.length c2, .slice A3 x.f3.length c3, .slice A4 x.f4.length c4] := Array.toList_inj.1 h
  obtain ⟨B2, d2, B3, d3, B4, d4, h', m2, q2, m3, q3, m4, q4⟩ := k26_open ky
  obtain rfl : ds = #[.int .u8 y.f0, .string y.f1, .slice B2 y.f2.length d2, .slice B3 y.f3.length d3, .slice B4 y.f4.length d4] := Array.toList_inj.1 h'
  obtain ⟨k, t, s, L, H, Z, u, v, M, J, Y, e1, e2, hk⟩ := valueKinds_true x.f0 x.f1 x.f2 x.f3 x.f4 y.f0 y.f1 y.f2 y.f3 y.f4
  by_cases htu : t = u
  · refine tipstafflaw09_ValueKinds.callsA k x.f0 x.f1 A2 c2 x.f2 A3 c3 x.f3 A4 c4 x.f4 y.f0 y.f1 B2 d2 y.f2 B3 d3 y.f3 B4 d4 y.f4 true w g2 l2 g3 l3 g4 l4 q2 m2 q3 m3 q4 m4 hk rfl ?_
    intro r0 r1 r2 r3 r4 s0 s1 s2 s3 s4 h1 h2
    have h3 := Option.some.inj (e1.symm.trans h1)
    have h4 := Option.some.inj (e2.symm.trans h2)
    simp only [Prod.mk.injEq] at h3 h4
    rw [← h3.1, ← h4.1]; exact htu
  · refine tipstafflaw09_ValueKinds.callsB k x.f0 x.f1 A2 c2 x.f2 A3 c3 x.f3 A4 c4 x.f4 y.f0 y.f1 B2 d2 y.f2 B3 d3 y.f3 B4 d4 y.f4 true w g2 l2 g3 l3 g4 l4 q2 m2 q3 m3 q4 m4 hk rfl ?_
    intro r0 r1 r2 r3 r4 s0 s1 s2 s3 s4 h1 h2
    have h3 := Option.some.inj (e1.symm.trans h1)
    have h4 := Option.some.inj (e2.symm.trans h2)
    simp only [Prod.mk.injEq] at h3 h4
    rw [← h3.1, ← h4.1]; exact htu
end Go.Proofs.Ytbbgiedfkklojaa.X
