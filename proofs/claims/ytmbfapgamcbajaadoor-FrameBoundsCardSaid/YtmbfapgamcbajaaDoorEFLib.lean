/- bytes.IndexByte and strings.Split, as the printed texts take them. -/
import Derived.Test.YtmbfapgamcbajaaDoorELd
import Derived.Test.YtmbfapgamcbajaaDoorWWords
import Derived.Lib.BytesEntry
import Derived.Laws.Externs
import Derived.WalkKit
set_option linter.unusedVariables false
set_option linter.unusedSimpArgs false
namespace Go.Proofs.YtmbfapgamcbajaaDoor.X
open Go.RowKit Go.Proofs.YtmbfapgamcbajaaDoorW.PrintWords

def bytes_IndexByte.f (l0 : List Int) (a1 : Int) : Option Int := some (Go.Lib.indexByte (Go.Lib.bytesOf l0) a1.toNat.toUInt8)

set_option maxHeartbeats 1000000 in
set_option maxRecDepth 100000 in
theorem indexByte_none (c0 : Nat) (a1 : Int) (w : World) :
    Calls Tryd.prog 27 #[.slice none 0 c0, .int .u8 a1] w fun e w' => e = .returned (.int .i64 (-1)) ∧ w' = w := by
  go_enter Tryd.func27, Tryd.ntmps27
  go_wp2
  rw [run_callFunc_extern Tryd.func38 (by kernel_rfl) (by kernel_rfl) (by kernel_rfl) (e := Extern.BytealgIndexByte.indexByte) (by kernel_rfl), Lib.run_indexByteNil w 0 c0 a1]
  simp only [Result.andThen]
  rw [Oper.upon_value]
  go_wp2
  go_ret
  exact ⟨rfl, rfl⟩

theorem bytes_IndexByte.same (A0 : Option Addr) (c0 : Nat) (l0 : List Int) (a1 : Int) (w : World) (hr0 : Kd.C (Kd.int .u8) w A0 l0.length l0) :
    Calls Tryd.prog 27 #[.slice A0 l0.length c0, .int .u8 a1] w fun e w' => e = .returned (.int .i64 (Go.Lib.indexByte (Go.Lib.bytesOf l0) a1.toNat.toUInt8)) ∧ w' = w := by
  cases A0 with
  | none =>
    have h0 : l0 = [] := by
      cases l0 with
      | nil => rfl
      | cons x l =>
        obtain ⟨ad, e, _⟩ := (Kd.reads_of_C (d := (0 : Int)) hr0).2.2 (by simp)
        cases e
    subst h0
    exact indexByte_none c0 a1 w
  | some ad =>
    refine Tryd.bytes_IndexByte_at ad l0.length c0 l0 a1 w rfl fun i hi => ?_
    obtain ⟨ad', e, hc⟩ := (Kd.reads_of_C (d := (0 : Int)) hr0).2.2 (by omega)
    cases e
    exact hc i hi

theorem bytes_IndexByte.calls (A0 : Option Addr) (c0 : Nat) (l0 : List Int) (a1 : Int) (r : Int) (w : World) (hr0 : Kd.C (Kd.int .u8) w A0 l0.length l0) (hc0 : l0.length ≤ c0) (h : bytes_IndexByte.f l0 a1 = some r) :
    Calls Tryd.prog 27 #[.slice A0 l0.length c0, .int .u8 a1] w fun e w' => e = .returned (.int .i64 r) ∧ Drawn0 w w' := by
  obtain rfl := Option.some.inj h
  refine (bytes_IndexByte.same A0 c0 l0 a1 w hr0).mono ?_
  rintro e w' ⟨rfl, rfl⟩
  exact ⟨rfl, Drawn0.refl _⟩

def strings_Split.f (a0 a1 : ByteArray) : Option (List ByteArray) := if a0.size < 4294967281 ∧ a1.size = 1 then some (Go.Lib.splitB a1 0 (Go.Lib.countB a0 a1) a0) else none

theorem strings_Split.calls (a0 a1 : ByteArray) (r : List ByteArray) (w : World) (hLd : Ld w) (h : strings_Split.f a0 a1 = some r) :
    Calls Tryd.prog 28 #[.string a0, .string a1] w fun e w' => ∃ v0_ : Value, e = .returned v0_ ∧ Kd.R Kd.string 9 w' w.heap.size (fun _ => True) v0_ r ∧ Below w.heap.size w w' := by
  unfold strings_Split.f at h
  split at h
  · rename_i hh
    obtain rfl := Option.some.inj h
    obtain ⟨m, hm⟩ := hLd.mx
    refine (Tryd.strings_Split a0 a1 m w hh.1 hm (by omega)).mono ?_
    rintro e w' ⟨rfl, rfl⟩
    have hlen := Lib.splitB_all a1 (by omega) 0 _ a0 rfl
    refine ⟨_, rfl, ?_, below_alloc (Below.refl _ _) _⟩
    have hle := Lib.countB_le a1 (by omega) a0.size a0 (Nat.le_refl _)
    rw [← hlen]
    exact Kd.R_of_own (own_lit_of (enc := Value.string) w w.heap.size 9 _ (Nat.le_refl _) (by rw [hlen]; omega)) (fun _ _ => trivial)
  · cases h
end Go.Proofs.YtmbfapgamcbajaaDoor.X
