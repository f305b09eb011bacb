/- DiskPlays: its walk at whatever comes in. -/
import Derived.Test.YtdjbapbfbgcfjaaDiskO
import Derived.Test.YtdjbapbfbgcfjaaDiskL6
namespace Go.Proofs.Ytdjbapbfbgcfjaa
open Go.RowKit Go.Proofs.YtdjbapbfbgcfjaaW.PrintWords

theorem Opens.iso {α β : Type} {P : Program} {t : TypeId} {d : Kd α} {ok : α → Prop} (h : Opens P t d ok) (f : β → α) (g : α → β) (hfg : ∀ a, f (g a) = a) : Opens P t (Kd.iso d f) (fun x => ok (f x)) :=
  ⟨h.1, fun H enc w base spare held fuel cs y hy => by
    obtain ⟨x, h1, h2⟩ := h.2 H enc w base spare held fuel cs y hy
    exact ⟨g x, by show d.K _ (f (g x)) _; rw [hfg]; exact h1, by show ok (f (g x)); rw [hfg]; exact h2⟩⟩
theorem o_str : Opens Try.prog 9 Kd.string (fun s => s.size ≤ maxLen) := Opens.string Try.underlying9 (by kernel_rfl)
theorem o_int : Opens Try.prog 3 (Kd.int .i64) (fun x => (Lit.int .i64 x).wf = true) := Opens.int Try.underlying3 (by kernel_rfl)
def okOp (x : POp) : Prop := (Lit.int .u8 x.kind).wf = true ∧ x.a.size ≤ maxLen ∧ x.c.size ≤ maxLen ∧ (x.b.length ≤ maxLen ∧ ∀ y ∈ x.b, (Lit.int .u8 y).wf = true) ∧ (Lit.int .i64 x.n).wf = true
theorem o_op : Opens Try.prog 32 kOp okOp :=
  (Opens.struct Try.underlying32 (by kernel_rfl) (OpensFs.cons rfl o_u8 (OpensFs.cons rfl o_str (OpensFs.cons rfl o_str (OpensFs.cons rfl o_bytes (OpensFs.last rfl o_int)))))).iso (fun x : POp => (x.kind, x.a, x.c, x.b, x.n)) (fun y => ⟨y.1, y.2.1, y.2.2.1, y.2.2.2.1, y.2.2.2.2⟩) (fun _ => rfl)
theorem o_ops : Opens Try.prog 22 (Kd.slice 32 kOp) (fun l => l.length ≤ maxLen ∧ ∀ x ∈ l, okOp x) := Opens.slice Try.underlying22 (by kernel_rfl) o_op

theorem plays_rowO (W : World) (x0 : List POp) (A0 : Option Addr) (n0 c0 : Nat) (kx0 : (Kd.slice 32 kOp).K W x0 [.slice A0 n0 c0]) (ok0 : x0.length ≤ maxLen ∧ ∀ x ∈ x0, okOp x) :
    Calls Try.prog 3 #[.slice A0 n0 c0] W fun e w' => e = .returned (.bool true) ∧ Below W.heap.size W w' := by
  obtain ⟨B0, d0, e0, b0, r0⟩ := kx0
  injection e0 with e0
  injection e0 with p0 p1 p2
  subst p0 p1 p2
  exact plays_row A0 c0 x0 W r0 b0 fun x hx => ⟨(ok0.2 x hx).1, (ok0.2 x hx).2.1, (ok0.2 x hx).2.2.1, (ok0.2 x hx).2.2.2.2⟩
end Go.Proofs.Ytdjbapbfbgcfjaa
