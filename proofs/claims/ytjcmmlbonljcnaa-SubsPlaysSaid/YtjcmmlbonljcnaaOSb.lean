/- What comes into the laws of subs, opened. -/
import Derived.Test.YtjcmmlbonljcnaaRows
import Derived.Test.YtjcmmlbonljcnaaOpen
import Derived.Test.YtjcmmlbonljcnaaWArr
set_option linter.unusedVariables false
namespace Go.Proofs.Ytjcmmlbonljcnaa.X
open Go.RowKit Go.Proofs.YtjcmmlbonljcnaaW.PrintWords Go.Proofs.Ytjcmmlbonljcnaa
abbrev Ts : Kd (List ByteArray) := Kd.slice 9 Kd.string
theorem o_texts : Opens Try.prog 22 Ts (fun l => l.length ≤ maxLen ∧ ∀ x ∈ l, x.size ≤ maxLen) := Opens.slice Try.underlying22 (by kernel_rfl) (Opens.string Try.underlying9 (by kernel_rfl))
theorem ts_open {w : World} {x : List ByteArray} {A : Option Addr} {n c : Nat} (h : Ts.K w x [.slice A n c]) : n = x.length ∧ x.length ≤ c ∧ Kd.C Kd.string w A x.length x := by
  obtain ⟨A', c', he, hl, hc⟩ := h
  injection he with he _
  injection he with e1 e2 e3
  subst e1 e2 e3
  exact ⟨rfl, hl, hc⟩
abbrev T2 : Kd (List ByteArray) := Kd.arr 2 Kd.string (by decide)
theorem o_two : Opens Try.prog 46 T2 (fun l => ∀ x ∈ l, x.size ≤ maxLen) := Opens.array (by decide) Try.underlying46 (by kernel_rfl) (Opens.string Try.underlying9 (by kernel_rfl))
theorem two_open {w : World} {l : List ByteArray} {cs : Array Value} (h : T2.K w l cs.toList) : ∃ a b : ByteArray, cs = #[.string a, .string b] := by
  obtain ⟨h2, e⟩ := Kd.arr_cells (enc := Value.string) (h1 := fun _ => rfl) h
  obtain ⟨a, b, rfl⟩ : ∃ a b, l = [a, b] := by
    match l, h2 with
    | [a, b], _ => exact ⟨a, b, rfl⟩
  refine ⟨a, b, ?_⟩
  have e' : cs.toList = [.string a, .string b] := by rw [e]; rfl
  rw [← Array.toArray_toList (xs := cs), e']
/-- Things that are done: rows of ops. -/
abbrev kOp : Kd (Int × Int × ByteArray) := Kd.pair (Kd.int .u8) (Kd.pair (Kd.int .i64) Kd.string)
abbrev Os' : Kd (List (Int × Int × ByteArray)) := Kd.slice 40 kOp
theorem o_ops : Opens Try.prog 34 Os' (fun l => l.length ≤ maxLen ∧ ∀ x ∈ l, (Lit.int .u8 x.1).wf = true ∧ (Lit.int .i64 x.2.1).wf = true ∧ x.2.2.size ≤ maxLen) :=
  Opens.slice Try.underlying34 (by kernel_rfl) (Opens.struct Try.underlying40 (by kernel_rfl) (OpensFs.cons rfl (Opens.int Try.underlying5 (by kernel_rfl)) (OpensFs.cons rfl (Opens.int Try.underlying3 (by kernel_rfl)) (OpensFs.last rfl (Opens.string Try.underlying9 (by kernel_rfl))))))
end Go.Proofs.Ytjcmmlbonljcnaa.X
