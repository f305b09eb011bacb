/- How the arguments of the disk's laws are opened; the rows' walks. -/
import Derived.Test.YtdjbapbfbgcfjaaOpen
import Derived.Test.YtdjbapbfbgcfjaaDiskL2
set_option linter.unusedVariables false
set_option linter.unusedSimpArgs false
namespace Go.Proofs.Ytdjbapbfbgcfjaa
open Go.RowKit Go.Proofs.YtdjbapbfbgcfjaaW.PrintWords

abbrev Bs : Kd (List Int) := Kd.slice 5 U8
theorem o_u8 : Opens Try.prog 5 U8 (fun x => (Lit.int .u8 x).wf = true) := Opens.int Try.underlying5 (by kernel_rfl)
theorem o_bytes : Opens Try.prog 30 Bs (fun l => l.length ≤ maxLen ∧ ∀ x ∈ l, (Lit.int .u8 x).wf = true) := Opens.slice Try.underlying30 (by kernel_rfl) o_u8
abbrev Bs2 : Kd (List (List Int)) := Kd.arr 2 Bs (by decide)
theorem o_two : Opens Try.prog 52 Bs2 (fun l => ∀ x ∈ l, x.length ≤ maxLen ∧ ∀ y ∈ x, (Lit.int .u8 y).wf = true) := Opens.array (by decide) Try.underlying52 (by kernel_rfl) o_bytes

theorem two_slices {W : World} {x : List (List Int)} {cs : Array Value} (h : Bs2.K W x cs.toList) : ∃ l1 l2 A1 A2 c1 c2, x = [l1, l2] ∧ cs = #[.slice A1 l1.length c1, .slice A2 l2.length c2] ∧ U8.C W A1 l1.length l1 ∧ U8.C W A2 l2.length l2 ∧ l1.length ≤ c1 ∧ l2.length ≤ c2 := by
  obtain ⟨hl, hc, hr⟩ := h
  match x, hl with
  | [l1, l2], _ =>
    have h0 := hr 0 l1 rfl
    have h1 := hr 1 l2 rfl
    have hsz : Bs.sz = 1 := rfl
    rw [hsz] at h0 h1 hc
    obtain ⟨A1, c1, e1, b1, r1⟩ := h0
    obtain ⟨A2, c2, e2, b2, r2⟩ := h1
    refine ⟨l1, l2, A1, A2, c1, c2, rfl, ?_, r1, r2, b1, b2⟩
    apply Array.ext'
    match hcs : cs.toList, hc with
    | [u, v], _ =>
      rw [hcs] at e1 e2
      simp at e1 e2
      rw [e1, e2]

theorem wf_u8 {n : Int} (h : (Lit.int .u8 n).wf = true) : 0 ≤ n ∧ n ≤ 255 := by
  have := bounds_u8 h
  omega

theorem left_row (W : World) (x0 : List (List Int)) (cs0 : Array Value) (a1 a2 : Int) (kx0 : Bs2.K W x0 cs0.toList) (ok0 : ∀ x ∈ x0, x.length ≤ maxLen ∧ ∀ y ∈ x, (Lit.int .u8 y).wf = true) (w1 : (Lit.int .u8 a1).wf = true) (w2 : (Lit.int .u8 a2).wf = true) :
    Calls Try.prog 7 #[.agg cs0, .int .u8 a1, .int .u8 a2] W fun e w' => e = .returned (.bool true) ∧ Below W.heap.size W w' := by
  obtain ⟨l1, l2, A1, A2, c1, c2, rfl, rfl, r1, r2, b1, b2⟩ := two_slices kx0
  have h1 := wf_u8 w1
  have h2 := wf_u8 w2
  have h3 : a1 % 3 = 0 ∨ a1 % 3 = 1 ∨ a1 % 3 = 2 := by omega
  rcases h3 with h3 | h3 | h3
  · exact left_0 A1 A2 l1 l2 c1 c2 a1 a2 W r1 r2 b1 b2 (by omega) (by omega) (by omega) (by omega) h3
  · exact left_1 A1 A2 l1 l2 c1 c2 a1 a2 W r1 r2 b1 b2 (by omega) (by omega) (by omega) (by omega) h3
  · exact left_2 A1 A2 l1 l2 c1 c2 a1 a2 W r1 r2 b1 b2 (by omega) (by omega) (by omega) (by omega) h3
end Go.Proofs.Ytdjbapbfbgcfjaa
