/- What value.own gives, in the printed shape, and value.Type. -/
import Derived.Test.YtbbgiedfkklojaaCopy
import Derived.Test.YtbbgiedfkklojaaRows
import Derived.Test.YtbbgiedfkklojaaXx0
set_option linter.unusedVariables false
set_option linter.unusedSimpArgs false
namespace Go.Proofs.Ytbbgiedfkklojaa.X
open Go.RowKit Go.Lib Go.Proofs.YtbbgiedfkklojaaW.PrintWords

theorem infoStr : (Try.prog.info? 9).map (fun i => (i.zero, i.size, i.bytes)) = some (some (.string ⟨#[]⟩), 1, 16) := by kernel_rfl
theorem sizeStr : (Try.prog.info? 9).map (·.size) = some 1 := by kernel_rfl

def value_own_string.f (l0 : List ByteArray) : Option (List ByteArray) := if l0.length ≤ 1000000 then some l0 else none

set_option maxHeartbeats 1000000 in
set_option maxRecDepth 100000 in
theorem value_own_string.calls (A0 : Option Addr) (c0 : Nat) (l0 : List ByteArray) (r : List ByteArray) (w : World) (hr0 : Kd.C Kd.string w A0 l0.length l0) (hc0 : l0.length ≤ c0) (h : value_own_string.f l0 = some r) :
    Calls Try.prog 60 #[.slice A0 l0.length c0] w fun e w' => ∃ v0_ : Value, e = .returned v0_ ∧ Kd.R Kd.string 9 w' w.heap.size (fun _ => True) v0_ r ∧ Below w.heap.size w w' := by
  unfold value_own_string.f at h
  by_cases hl : l0.length ≤ 1000000
  case neg => rw [if_neg hl] at h; cases h
  rw [if_pos hl] at h
  injection h with h
  subst h
  have HC := Aside0.mk hr0
  clear hr0
  go_enter Try.func60, Try.ntmps60
  go_wp2_with (first | (at_make; refine Kd.R_make Kd.string (w0 := w) w.heap.size 9 rfl rfl 22 _ _ rfl (l0.length : Int) rfl rfl Try.underlying22 (.string ⟨#[]⟩) 16 infoStr rfl (by decide) (by decide) (⟨#[]⟩ : ByteArray) (ok := fun _ => True) (okp := fun _ => False) rfl (fun _ h => h.elim) trivial (by omega) ?_ (Below.refl _ _) (Nat.le_refl _) ?_))
  · omega
  intro v1 w1 hr hb hg b hb1 hb2
  try simp only [Int.toNat_natCast] at hr
  have HR := Aside0.mk hr
  have HB := Aside0.mk hb
  clear hr hb hg hb1 hb2 b
  obtain ⟨w2, hrun, hr2, hb2⟩ := run_copy_flat (P := Try.prog) (w0 := w) 22 22 3 Kd.string flat_string 9 w.heap.size Try.underlying22 sizeStr v1 A0 c0 l0 _ HR.out (by simp) (Kd.C_below HC.out HB.out) HB.out
  have HR2 := Aside0.mk hr2
  have HB2 := Aside0.mk hb2
  clear hr2 hb2
  go_wp2
  go_ret
  exact ⟨_, rfl, HR2.out, HB2.out⟩

theorem infoPair : (Try.prog.info? 60).map (fun i => (i.zero, i.size, i.bytes)) = some (some (.agg #[.string ⟨#[]⟩, .string ⟨#[]⟩]), 2, 32) := by kernel_rfl
theorem sizePair : (Try.prog.info? 60).map (·.size) = some 2 := by kernel_rfl

def api_Pair_61.f {α : Type} (l0 : List α) : Option (List α) := if l0.length ≤ 1000000 then some l0 else none

set_option maxHeartbeats 1000000 in
set_option maxRecDepth 100000 in
/-- For whatever reader of such elements that holds no rows ('k..' of a printed text). -/
theorem api_Pair_61.calls_ {α : Type} {d : Kd α} (A0 : Option Addr) (c0 : Nat) (l0 : List α) (r : List α) (w : World) (hr0 : Kd.C d w A0 l0.length l0) (hc0 : l0.length ≤ c0) (h : api_Pair_61.f l0 = some r)
    (hF : Flat d := by with_unfolding_all exact fun _ _ _ _ _ h => h) (hs : d.sz = 2 := by with_unfolding_all rfl) (hz : ∃ z0 : α, ∀ (w : World) (base : Nat) (ok : Nat → Prop), d.M w base ok z0 [.string ⟨#[]⟩, .string ⟨#[]⟩] := by with_unfolding_all exact ⟨⟨⟨#[]⟩, ⟨#[]⟩⟩, fun _ _ _ => ⟨_, _, rfl, rfl, rfl⟩⟩) :
    Calls Try.prog 61 #[.slice A0 l0.length c0] w fun e w' => ∃ v0_ : Value, e = .returned v0_ ∧ Kd.R d 60 w' w.heap.size (fun _ => True) v0_ r ∧ Below w.heap.size w w' := by
  unfold api_Pair_61.f at h
  by_cases hl : l0.length ≤ 1000000
  case neg => rw [if_neg hl] at h; cases h
  rw [if_pos hl] at h
  injection h with h
  subst h
  have HC := Aside0.mk hr0
  clear hr0
  obtain ⟨z0, hz⟩ := hz
  have HS := Aside0.mk hs
  have HZ := Aside0.mk hz
  have HF := Aside0.mk hF
  clear hs hz hF
  go_enter Try.func61, Try.ntmps61
  go_wp2_with (first | (at_make; refine Kd.R_make d (w0 := w) w.heap.size 60 rfl rfl 23 _ _ rfl (l0.length : Int) rfl rfl Try.underlying23 (.agg #[.string ⟨#[]⟩, .string ⟨#[]⟩]) 32 (by rw [HS.out]; exact infoPair) (by rw [HS.out]; rfl) (by rw [HS.out]; decide) (by decide) z0 (ok := fun _ => True) (okp := fun _ => False) (HZ.out _ _ _) (fun _ h => h.elim) trivial (by omega) ?_ (Below.refl _ _) (Nat.le_refl _) ?_))
  · omega
  intro v1 w1 hr hb hg b hb1 hb2
  try simp only [Int.toNat_natCast] at hr
  have HR := Aside0.mk hr
  have HB := Aside0.mk hb
  clear hr hb hg hb1 hb2 b
  obtain ⟨w2, hrun, hr2, hb2⟩ := run_copy_flat (P := Try.prog) (w0 := w) 23 23 3 d HF.out 60 w.heap.size Try.underlying23 (by rw [HS.out]; exact sizePair) v1 A0 c0 l0 _ HR.out (by simp) (Kd.C_below HC.out HB.out) HB.out
  have HR2 := Aside0.mk hr2
  have HB2 := Aside0.mk hb2
  clear hr2 hb2
  go_wp2
  go_ret
  exact ⟨_, rfl, HR2.out, HB2.out⟩

theorem infoMark : (Try.prog.info? 62).map (fun i => (i.zero, i.size, i.bytes)) = some (some (.agg #[.string ⟨#[]⟩, .int .i64 0]), 2, 24) := by kernel_rfl
theorem sizeMark : (Try.prog.info? 62).map (·.size) = some 2 := by kernel_rfl

def api_Mark_62.f {α : Type} (l0 : List α) : Option (List α) := if l0.length ≤ 1000000 then some l0 else none

set_option maxHeartbeats 1000000 in
set_option maxRecDepth 100000 in
/-- For whatever reader of such elements that holds no rows ('k..' of a printed text). -/
theorem api_Mark_62.calls_ {α : Type} {d : Kd α} (A0 : Option Addr) (c0 : Nat) (l0 : List α) (r : List α) (w : World) (hr0 : Kd.C d w A0 l0.length l0) (hc0 : l0.length ≤ c0) (h : api_Mark_62.f l0 = some r)
    (hF : Flat d := by with_unfolding_all exact fun _ _ _ _ _ h => h) (hs : d.sz = 2 := by with_unfolding_all rfl) (hz : ∃ z0 : α, ∀ (w : World) (base : Nat) (ok : Nat → Prop), d.M w base ok z0 [.string ⟨#[]⟩, .int .i64 0] := by with_unfolding_all exact ⟨⟨⟨#[]⟩, 0⟩, fun _ _ _ => ⟨_, _, rfl, rfl, rfl⟩⟩) :
    Calls Try.prog 62 #[.slice A0 l0.length c0] w fun e w' => ∃ v0_ : Value, e = .returned v0_ ∧ Kd.R d 62 w' w.heap.size (fun _ => True) v0_ r ∧ Below w.heap.size w w' := by
  unfold api_Mark_62.f at h
  by_cases hl : l0.length ≤ 1000000
  case neg => rw [if_neg hl] at h; cases h
  rw [if_pos hl] at h
  injection h with h
  subst h
  have HC := Aside0.mk hr0
  clear hr0
  obtain ⟨z0, hz⟩ := hz
  have HS := Aside0.mk hs
  have HZ := Aside0.mk hz
  have HF := Aside0.mk hF
  clear hs hz hF
  go_enter Try.func62, Try.ntmps62
  go_wp2_with (first | (at_make; refine Kd.R_make d (w0 := w) w.heap.size 62 rfl rfl 24 _ _ rfl (l0.length : Int) rfl rfl Try.underlying24 (.agg #[.string ⟨#[]⟩, .int .i64 0]) 24 (by rw [HS.out]; exact infoMark) (by rw [HS.out]; rfl) (by rw [HS.out]; decide) (by decide) z0 (ok := fun _ => True) (okp := fun _ => False) (HZ.out _ _ _) (fun _ h => h.elim) trivial (by omega) ?_ (Below.refl _ _) (Nat.le_refl _) ?_))
  · omega
  intro v1 w1 hr hb hg b hb1 hb2
  try simp only [Int.toNat_natCast] at hr
  have HR := Aside0.mk hr
  have HB := Aside0.mk hb
  clear hr hb hg hb1 hb2 b
  obtain ⟨w2, hrun, hr2, hb2⟩ := run_copy_flat (P := Try.prog) (w0 := w) 24 24 3 d HF.out 62 w.heap.size Try.underlying24 (by rw [HS.out]; exact sizeMark) v1 A0 c0 l0 _ HR.out (by simp) (Kd.C_below HC.out HB.out) HB.out
  have HR2 := Aside0.mk hr2
  have HB2 := Aside0.mk hb2
  clear hr2 hb2
  go_wp2
  go_ret
  exact ⟨_, rfl, HR2.out, HB2.out⟩

theorem api_Pair_61.calls (A0 : Option Addr) (c0 : Nat) (l0 : List S60) (r : List S60) (w : World) (hr0 : Kd.C k60 w A0 l0.length l0) (hc0 : l0.length ≤ c0) (h : api_Pair_61.f l0 = some r) :
    Calls Try.prog 61 #[.slice A0 l0.length c0] w fun e w' => ∃ v0_ : Value, e = .returned v0_ ∧ Kd.R k60 60 w' w.heap.size (fun _ => True) v0_ r ∧ Below w.heap.size w w' :=
  api_Pair_61.calls_ (d := k60) A0 c0 l0 r w hr0 hc0 h

theorem api_Mark_62.calls (A0 : Option Addr) (c0 : Nat) (l0 : List S62) (r : List S62) (w : World) (hr0 : Kd.C k62 w A0 l0.length l0) (hc0 : l0.length ≤ c0) (h : api_Mark_62.f l0 = some r) :
    Calls Try.prog 62 #[.slice A0 l0.length c0] w fun e w' => ∃ v0_ : Value, e = .returned v0_ ∧ Kd.R k62 62 w' w.heap.size (fun _ => True) v0_ r ∧ Below w.heap.size w w' :=
  api_Mark_62.calls_ (d := k62) A0 c0 l0 r w hr0 hc0 h
end Go.Proofs.Ytbbgiedfkklojaa.X
