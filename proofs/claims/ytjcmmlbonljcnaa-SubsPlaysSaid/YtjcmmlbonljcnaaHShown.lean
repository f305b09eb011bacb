/- The laws' head: the document's example. -/
import Derived.Test.YtjcmmlbonljcnaaSbTxt
set_option linter.unusedVariables false
set_option linter.unusedSimpArgs false
namespace Go.Proofs.Ytjcmmlbonljcnaa.X
open Go.RowKit Go.Maps Go.ChangeMaps Go.MapKept Go.Proofs.Ytjcmmlbonljcnaa.Mv Go.Proofs.YtjcmmlbonljcnaaW.PrintWords

def sL1 : List Pr := addP (3, ⟨#[120]⟩) []
def sL2 : List Pr := addP (1, ⟨#[120]⟩) sL1
def sL3 : List Pr := addP (1, ⟨#[97]⟩) sL2
theorem s1 : sL1 = [(3, ⟨#[120]⟩)] := by rfl
theorem s2 : sL2 = [(1, ⟨#[120]⟩), (3, ⟨#[120]⟩)] := by decide +kernel
theorem s3 : sL3 = [(1, ⟨#[97]⟩), (1, ⟨#[120]⟩), (3, ⟨#[120]⟩)] := by decide +kernel
theorem s4 : hearP ⟨#[120]⟩ sL3 = [1, 3] := by rw [s3]; decide +kernel

set_option maxHeartbeats 1000000 in
set_option maxRecDepth 100000 in
theorem shown_true (w : World) : Calls Try.prog 7 #[] w fun e w' => e = .returned (.bool true) ∧ Aside0 (Below w.heap.size w w') := by
  have hx : PrOk (3, ⟨#[120]⟩) := ⟨by decide, by decide⟩
  have hy : PrOk (1, ⟨#[120]⟩) := ⟨by decide, by decide⟩
  have hz : PrOk (1, ⟨#[97]⟩) := ⟨by decide, by decide⟩
  have HX := Aside0.mk hx
  have HY := Aside0.mk hy
  have HZ := Aside0.mk hz
  clear hx hy hz
  go_enter Try.func7, Try.ntmps7
  go_wp2_with fail
  refine (new_s w w (Below.refl _ _)).mono ?_
  rintro e w1 ⟨g, m, rfl, HS1, _, _, _⟩
  go_wp2_with fail
  refine (add_s g m 0 [] 3 ⟨#[120]⟩ w1 HS1.out (by omega) HX.out 1 (by show (ofP 3 sL1).length = 1; rw [s1]; decide +kernel)).mono ?_
  rintro e w2 ⟨rfl, HS2, _⟩
  go_wp2_with fail
  refine (add_s g m 1 sL1 1 ⟨#[120]⟩ w2 HS2.out (by omega) HY.out 1 (by show (ofP 1 sL2).length = 1; rw [s2]; decide +kernel)).mono ?_
  rintro e w3 ⟨rfl, HS3, _⟩
  go_wp2_with fail
  refine (add_s g m 2 sL2 1 ⟨#[97]⟩ w3 HS3.out (by omega) HZ.out 2 (by show (ofP 1 sL3).length = 2; rw [s3]; decide +kernel)).mono ?_
  rintro e w4 ⟨rfl, HS4, _⟩
  go_wp2_with fail
  refine (hear_s g m 3 sL3 ⟨#[120]⟩ w4 HS4.out (by omega) [1, 3] s4 2 rfl).mono ?_
  rintro e w5 ⟨A, k, rfl, hk, HC, HS5, _⟩
  obtain ⟨ad, e0, hcell⟩ := (Kd.reads_of_C (d := (0 : Int)) HC.out).2.2 (by decide)
  subst e0
  have c0 : w5.cell? ad = some (.int .i64 1) := by have h := hcell 0 (by decide); simpa [Addr.add] using h
  have c1 : w5.cell? (ad.add 1) = some (.int .i64 3) := hcell 1 (by decide)
  have c2 : w5.cell? { block := ad.block, off := ad.off + 1 } = some (.int .i64 3) := by simpa [Addr.add] using c1
  clear hcell
  go_wp2_with fail
  refine (remove_s g m 3 sL3 1 ⟨#[120]⟩ w5 HS5.out (by omega) HY.out 1 (by rw [s3]; decide +kernel)).mono ?_
  rintro e w6 ⟨rfl, HS6, _⟩
  go_wp2
  go_ret
  exact ⟨rfl, ⟨HS6.out.below⟩⟩
end Go.Proofs.Ytjcmmlbonljcnaa.X
