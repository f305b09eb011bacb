/- What comes in as a value (or a pair, or a mark), read as data. -/
import Derived.Test.YtbbgiedfkklojaaOpenW
import Derived.Test.YtbbgiedfkklojaaXx0
set_option linter.unusedVariables false
set_option linter.unusedSimpArgs false
namespace Go.Proofs.Ytbbgiedfkklojaa.X
open Go.RowKit Go.Proofs.YtbbgiedfkklojaaW.PrintWords Go.Proofs.Ytbbgiedfkklojaa

theorem OpensW.iso {α β : Type} {P : Program} {t : TypeId} {d : Kd α} {ok : α → Prop} (f : β → α) (g : α → β) (hg : ∀ x, f (g x) = x) (h : OpensW P t d ok) : OpensW P t (Kd.iso d f) (fun y => ok (f y)) := ⟨h.1, fun H enc w base spare held fuel cs y hy hz => by
  obtain ⟨x, h1, h2⟩ := h.2 H enc w base spare held fuel cs y hy hz
  refine ⟨g x, ?_, ?_⟩
  · show d.K w (f (g x)) cs
    rw [hg]; exact h1
  · show ok (f (g x))
    rw [hg]; exact h2⟩
theorem o_str : OpensW Try.prog 9 Kd.string (fun s => s.size ≤ reachBytes) := OpensW.string Try.underlying9 (by kernel_rfl)
theorem o_pair : OpensW Try.prog 60 k60 (fun x => x.f0.size ≤ reachBytes ∧ x.f1.size ≤ reachBytes) :=
  OpensW.iso (fun x : S60 => (x.f0, x.f1)) (fun p => ⟨p.1, p.2⟩) (fun _ => rfl) (OpensW.struct Try.underlying60 (by kernel_rfl) (OpensFsW.cons rfl o_str (OpensFsW.last rfl o_str)))
theorem o_mark : OpensW Try.prog 62 k62 (fun x => x.f0.size ≤ reachBytes ∧ (Lit.int .i64 x.f1).wf = true) :=
  OpensW.iso (fun x : S62 => (x.f0, x.f1)) (fun p => ⟨p.1, p.2⟩) (fun _ => rfl) (OpensW.struct Try.underlying62 (by kernel_rfl) (OpensFsW.cons rfl o_str (OpensFsW.last rfl (OpensW.int Try.underlying3 (by kernel_rfl)))))
/-- What is known of a value that comes in. -/
structure OkVal (x : S26) : Prop where
  kind : (Lit.int .u8 x.f0).wf = true
  text : x.f1.size ≤ reachBytes
  list : ∀ s ∈ x.f2, s.size ≤ reachBytes
  pairs : ∀ s ∈ x.f3, s.f0.size ≤ reachBytes ∧ s.f1.size ≤ reachBytes
  marks : ∀ s ∈ x.f4, s.f0.size ≤ reachBytes ∧ (Lit.int .i64 s.f1).wf = true
  nl : x.f2.length ≤ reachBytes
  np : x.f3.length ≤ reachBytes
  nm : x.f4.length ≤ reachBytes
theorem bytes_le {n b : Nat} (h : n * b ≤ reachBytes) (hb : b ≠ 0) : n ≤ reachBytes := Nat.le_trans (Nat.le_mul_of_pos_right n (Nat.pos_of_ne_zero hb)) h
theorem o_value : OpensW Try.prog 26 k26 OkVal :=
  OpensW.imp (OpensW.iso (fun x : S26 => (x.f0, x.f1, x.f2, x.f3, x.f4)) (fun p => ⟨p.1, p.2.1, p.2.2.1, p.2.2.2.1, p.2.2.2.2⟩) (fun _ => rfl) (OpensW.struct Try.underlying26 (by kernel_rfl)
    (OpensFsW.cons rfl (OpensW.int Try.underlying5 (by kernel_rfl)) (OpensFsW.cons rfl o_str (OpensFsW.cons rfl (OpensW.slice Try.underlying22 (by kernel_rfl) o_str) (OpensFsW.cons rfl (OpensW.slice Try.underlying23 (by kernel_rfl) o_pair) (OpensFsW.last rfl (OpensW.slice Try.underlying24 (by kernel_rfl) o_mark))))))))
    (fun x h => ⟨h.1, h.2.1, h.2.2.1.2, h.2.2.2.1.2, h.2.2.2.2.2, bytes_le h.2.2.1.1.2 (of_decide_eq_true (by kernel_rfl)), bytes_le h.2.2.2.1.1.2 (of_decide_eq_true (by kernel_rfl)), bytes_le h.2.2.2.2.1.2 (of_decide_eq_true (by kernel_rfl))⟩)
end Go.Proofs.Ytbbgiedfkklojaa.X
