/- Functions of package strings, as the printed texts take them. -/
import Derived.Test.YtencimfeipglaaaDoorELd
import Derived.Test.YtencimfeipglaaaDoorWWords
import Derived.Test.YtencimfeipglaaaDoorWMore
import Derived.Test.YtencimfeipglaaaDoorKp
import Derived.WalkKit
set_option linter.unusedVariables false
set_option linter.unusedSimpArgs false
namespace Go.Proofs.YtencimfeipglaaaDoor.X
open Go.RowKit Go.Proofs.YtencimfeipglaaaDoorW.PrintWords

def strings_IndexByte.f (a0 : ByteArray) (a1 : Int) : Option Int := some (Go.Lib.indexByte a0.data.toList a1.toNat.toUInt8)
theorem strings_IndexByte.calls (a0 : ByteArray) (a1 : Int) (r : Int) (w : World) (h : strings_IndexByte.f a0 a1 = some r) :
    Calls Tryd.prog 96 #[.string a0, .int .u8 a1] w fun e w' => e = .returned (.int .i64 r) ∧ Drawn0 w w' := by
  obtain rfl := Option.some.inj h
  refine (Tryd.strings_IndexByte a0 a1 w).mono ?_
  rintro e w' ⟨rfl, rfl⟩
  exact ⟨rfl, Drawn0.refl _⟩

def cutB (a0 a1 : ByteArray) : ByteArray × ByteArray × Bool := (⟨(Lib.cut a0.data.toList a1.data.toList).1.toArray⟩, ⟨(Lib.cut a0.data.toList a1.data.toList).2.1.toArray⟩, (Lib.cut a0.data.toList a1.data.toList).2.2)
def strings_Cut.f (a0 a1 : ByteArray) : Option (ByteArray × ByteArray × Bool) := if a0.size < 4294967281 then some (cutB a0 a1) else none
theorem strings_Cut.calls (a0 a1 : ByteArray) (r1 r2 : ByteArray) (r3 : Bool) (w : World) (hLd : Ld w) (h : strings_Cut.f a0 a1 = some (r1, r2, r3)) :
    Calls Tryd.prog 59 #[.string a0, .string a1] w fun e w' => e = .returned (.tuple #[.string r1, .string r2, .bool r3]) ∧ Below w.heap.size w w' := by
  unfold strings_Cut.f at h
  split at h
  · rename_i hh
    obtain ⟨m, hm⟩ := hLd.mx
    have h' := Option.some.inj h
    refine (Tryd.strings_Cut a0 a1 m w hh hm).mono ?_
    rintro e w' ⟨rfl, n, rfl⟩
    unfold cutB at h'
    obtain ⟨rfl, h2⟩ := Prod.mk.inj h'
    obtain ⟨rfl, rfl⟩ := Prod.mk.inj h2
    exact ⟨rfl, pw_below_drewN (Below.refl _ _) n⟩
  · cases h

def strings_Split.f (a0 a1 : ByteArray) : Option (List ByteArray) := if a0.size < 4294967281 ∧ a1.size = 1 then some (Go.Lib.splitB a1 0 (Go.Lib.countB a0 a1) a0) else none

theorem strings_Split.calls (a0 a1 : ByteArray) (r : List ByteArray) (w : World) (hLd : Ld w) (h : strings_Split.f a0 a1 = some r) :
    Calls Tryd.prog 75 #[.string a0, .string a1] w fun e w' => ∃ v0_ : Value, e = .returned v0_ ∧ Kd.R Kd.string 9 w' w.heap.size (fun _ => True) v0_ r ∧ Below w.heap.size w w' := by
  unfold strings_Split.f at h
  split at h
  · rename_i hh
    obtain rfl := Option.some.inj h
    obtain ⟨m, hm⟩ := hLd.mx
    refine (Tryd.strings_Split a0 a1 m w hh.1 hm (by omega)).mono ?_
    rintro e w' ⟨rfl, rfl⟩
    have hlen := Lib.splitB_all a1 (by omega) 0 _ a0 rfl
    refine ⟨_, rfl, ?_, below_alloc (Below.refl _ _) _⟩
    have hle := Lib.countB_le a1 (by omega) a0.size a0 (Nat.le_refl _)
    rw [← hlen]
    exact Kd.R_of_own (own_lit_of (enc := Value.string) w w.heap.size 9 _ (Nat.le_refl _) (by rw [hlen]; omega)) (fun _ _ => trivial)
  · cases h
end Go.Proofs.YtencimfeipglaaaDoor.X
