/- DiskSaves: its walk at whatever comes in. -/
import Derived.Test.YtdjbapbfbgcfjaaDiskO
import Derived.Test.YtdjbapbfbgcfjaaDiskL5
namespace Go.Proofs.Ytdjbapbfbgcfjaa
open Go.RowKit Go.Proofs.YtdjbapbfbgcfjaaW.PrintWords

abbrev I8s : Kd (List Int) := Kd.arr 12 (Kd.int .i8) (by decide)
abbrev I64s : Kd (List Int) := Kd.arr 12 (Kd.int .i64) (by decide)
theorem o_i8s : Opens Try.prog 48 I8s (fun l => ∀ x ∈ l, (Lit.int .i8 x).wf = true) := Opens.array (by decide) Try.underlying48 (by kernel_rfl) (Opens.int Try.underlying47 (by kernel_rfl))
theorem o_i64s : Opens Try.prog 49 I64s (fun l => ∀ x ∈ l, (Lit.int .i64 x).wf = true) := Opens.array (by decide) Try.underlying49 (by kernel_rfl) (Opens.int Try.underlying3 (by kernel_rfl))
theorem o_rows : Opens Try.prog 46 (Kd.slice 30 Bs) (fun l => l.length ≤ maxLen ∧ ∀ x ∈ l, x.length ≤ maxLen ∧ ∀ y ∈ x, (Lit.int .u8 y).wf = true) := Opens.slice Try.underlying46 (by kernel_rfl) o_bytes

theorem saves_rowO (W : World) (x0 : List (List Int)) (A0 : Option Addr) (n0 c0 : Nat) (x1 : List Int) (cs1 : Array Value) (x2 : List Int) (cs2 : Array Value) (kx0 : (Kd.slice 30 Bs).K W x0 [.slice A0 n0 c0]) (ok0 : x0.length ≤ maxLen ∧ ∀ x ∈ x0, x.length ≤ maxLen ∧ ∀ y ∈ x, (Lit.int .u8 y).wf = true)
    (kx1 : I8s.K W x1 cs1.toList) (ok1 : ∀ x ∈ x1, (Lit.int .i8 x).wf = true) (kx2 : I64s.K W x2 cs2.toList) (ok2 : ∀ x ∈ x2, (Lit.int .i64 x).wf = true) :
    Calls Try.prog 4 #[.slice A0 n0 c0, .agg cs1, .agg cs2] W fun e w' => e = .returned (.bool true) ∧ Below W.heap.size W w' := by
  obtain ⟨B0, d0, e0, b0, r0⟩ := kx0
  injection e0 with e0
  injection e0 with p0 p1 p2
  subst p0 p1 p2
  obtain ⟨l1, k1⟩ := Kd.arr_cells kx1
  obtain ⟨l2, k2⟩ := Kd.arr_cells kx2
  obtain rfl : cs1 = (encs (Value.int .i8) x1).toArray := by rw [← k1]
  obtain rfl : cs2 = (encs (Value.int .i64) x2).toArray := by rw [← k2]
  exact saves_row A0 c0 x0 x1 x2 W r0 b0 l1 l2 ok1 ok2
end Go.Proofs.Ytdjbapbfbgcfjaa
