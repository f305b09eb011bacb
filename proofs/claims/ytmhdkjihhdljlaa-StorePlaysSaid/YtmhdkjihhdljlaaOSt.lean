/- What comes into the laws of the store, opened. -/
import Derived.Test.YtmhdkjihhdljlaaRows
import Derived.Test.YtmhdkjihhdljlaaOpen
import Derived.Test.YtmhdkjihhdljlaaStOps
set_option linter.unusedVariables false
namespace Go.Proofs.Ytmhdkjihhdljlaa.X
open Go.RowKit Go.Proofs.YtmhdkjihhdljlaaW.PrintWords Go.Proofs.Ytmhdkjihhdljlaa
theorem Opens.iso {α β : Type} {P : Program} {t : TypeId} {d : Kd α} {ok : α → Prop} (f : β → α) (g : α → β) (hg : ∀ x, f (g x) = x) (h : Opens P t d ok) : Opens P t (Kd.iso d f) (fun y => ok (f y)) := ⟨h.1, fun H enc w base spare held fuel cs y hy => by
  obtain ⟨x, h1, h2⟩ := h.2 H enc w base spare held fuel cs y hy
  refine ⟨g x, ?_, ?_⟩
  · show d.K w (f (g x)) cs
    rw [hg]; exact h1
  · show ok (f (g x))
    rw [hg]; exact h2⟩
theorem o_pair : Opens Try.prog 66 kPair (fun _ => True) :=
  Opens.imp (Opens.iso (fun x : S66 => (x.f0, x.f1)) (fun p => ⟨p.1, p.2⟩) (fun _ => rfl) (Opens.struct Try.underlying66 (by kernel_rfl) (OpensFs.cons rfl (Opens.string Try.underlying9 (by kernel_rfl)) (OpensFs.last rfl (Opens.string Try.underlying9 (by kernel_rfl)))))) (fun _ _ => trivial)
theorem o_mark : Opens Try.prog 69 kMark (fun _ => True) :=
  Opens.imp (Opens.iso (fun x : S69 => (x.f0, x.f1)) (fun p => ⟨p.1, p.2⟩) (fun _ => rfl) (Opens.struct Try.underlying69 (by kernel_rfl) (OpensFs.cons rfl (Opens.string Try.underlying9 (by kernel_rfl)) (OpensFs.last rfl (Opens.int Try.underlying3 (by kernel_rfl)))))) (fun _ _ => trivial)
theorem o_vl : Opens Try.prog 26 kVl (fun _ => True) :=
  Opens.imp (Opens.iso (fun x : Vl => (x.kind, x.s, x.l, x.h, x.z)) (fun p => ⟨p.1, p.2.1, p.2.2.1, p.2.2.2.1, p.2.2.2.2⟩) (fun _ => rfl) (Opens.struct Try.underlying26 (by kernel_rfl)
    (OpensFs.cons rfl (Opens.int Try.underlying5 (by kernel_rfl)) (OpensFs.cons rfl (Opens.string Try.underlying9 (by kernel_rfl)) (OpensFs.cons rfl (Opens.slice Try.underlying22 (by kernel_rfl) (Opens.string Try.underlying9 (by kernel_rfl))) (OpensFs.cons rfl (Opens.slice Try.underlying23 (by kernel_rfl) o_pair) (OpensFs.last rfl (Opens.slice Try.underlying24 (by kernel_rfl) o_mark)))))))) (fun _ _ => trivial)
theorem wf_u8 {x : Int} (h : (Lit.int .u8 x).wf = true) : 0 ≤ x ∧ x ≤ 255 := by
  have e1 : IntKind.u8.min = 0 := rfl
  have e2 : IntKind.u8.max = 255 := rfl
  simpa [Lit.wf, e1, e2] using h
theorem wf_u16 {x : Int} (h : (Lit.int .u16 x).wf = true) : 0 ≤ x ∧ x ≤ 65535 := by
  have e1 : IntKind.u16.min = 0 := rfl
  have e2 : IntKind.u16.max = 65535 := rfl
  simpa [Lit.wf, e1, e2] using h
theorem o_op : Opens Try.prog 42 kOp OpOk :=
  Opens.imp (Opens.iso (fun x : Op10 => (x.kind, x.key, x.v, x.n, x.on)) (fun p => ⟨p.1, p.2.1, p.2.2.1, p.2.2.2.1, p.2.2.2.2⟩) (fun _ => rfl) (Opens.struct Try.underlying42 (by kernel_rfl)
    (OpensFs.cons rfl (Opens.int Try.underlying5 (by kernel_rfl)) (OpensFs.cons rfl (Opens.string Try.underlying9 (by kernel_rfl)) (OpensFs.cons rfl o_vl (OpensFs.cons rfl (Opens.int Try.underlying3 (by kernel_rfl)) (OpensFs.last rfl (Opens.bool Try.underlying4 (by kernel_rfl)))))))))
    (fun x h => ⟨wf_u8 h.1, h.2.1⟩)
abbrev Os' : Kd (List Op10) := Kd.slice 42 kOp
theorem o_ops : Opens Try.prog 40 Os' (fun l => l.length ≤ maxLen ∧ ∀ o ∈ l, OpOk o) := Opens.slice Try.underlying40 (by kernel_rfl) o_op
theorem ops_open {w : World} {x : List Op10} {A : Option Addr} {n c : Nat} (h : Os'.K w x [.slice A n c]) : n = x.length ∧ x.length ≤ c ∧ kOp.C w A x.length x := by
  obtain ⟨A', c', he, hl, hc⟩ := h
  injection he with he _
  injection he with e1 e2 e3
  subst e1 e2 e3
  exact ⟨rfl, hl, hc⟩
abbrev U16s : Kd (List Int) := Kd.slice 27 (Kd.int .u16)
theorem o_u16s : Opens Try.prog 48 U16s (fun l => l.length ≤ maxLen ∧ ∀ x ∈ l, (Lit.int .u16 x).wf = true) := Opens.slice Try.underlying48 (by kernel_rfl) (Opens.int Try.underlying27 (by kernel_rfl))
theorem u16s_open {w : World} {x : List Int} {A : Option Addr} {n c : Nat} (h : U16s.K w x [.slice A n c]) : n = x.length ∧ x.length ≤ c ∧ (Kd.int .u16).C w A x.length x := by
  obtain ⟨A', c', he, hl, hc⟩ := h
  injection he with he _
  injection he with e1 e2 e3
  subst e1 e2 e3
  exact ⟨rfl, hl, hc⟩
theorem o_two : Opens Try.prog 28 (Kd.arr 2 (Kd.int .u16) (by decide)) (fun l => ∀ x ∈ l, (Lit.int .u16 x).wf = true) := Opens.array (by decide) Try.underlying28 (by kernel_rfl) (Opens.int Try.underlying27 (by kernel_rfl))
theorem two_open {w : World} {l : List Int} {cs : Array Value} (h : (Kd.arr 2 (Kd.int .u16) (by decide)).K w l cs.toList) (ok : ∀ x ∈ l, (Lit.int .u16 x).wf = true) :
    ∃ a0 a1 : Int, cs = #[.int .u16 a0, .int .u16 a1] ∧ (0 ≤ a0 ∧ a0 ≤ 65535) ∧ (0 ≤ a1 ∧ a1 ≤ 65535) := by
  obtain ⟨h4, e⟩ := Kd.arr_cells (enc := Value.int .u16) (h1 := fun _ => rfl) h
  obtain ⟨a0, a1, rfl⟩ : ∃ a0 a1, l = [a0, a1] := by
    match l, h4 with
    | [a0, a1], _ => exact ⟨a0, a1, rfl⟩
  refine ⟨a0, a1, ?_, wf_u16 (ok _ (by simp)), wf_u16 (ok _ (by simp))⟩
  have e' : cs.toList = [.int .u16 a0, .int .u16 a1] := by rw [e]; rfl
  rw [← Array.toArray_toList (xs := cs), e']
end Go.Proofs.Ytmhdkjihhdljlaa.X
