-- Written by a program of the session (wip/xprint.py): the kit's printer, beside contracts of the session's own.
import Derived.Test.YtjcmmlbonljcnaaProg
import Derived.Below
import Derived.Deep.Draws
import Derived.Deep.AppendLies
import Derived.Maps.AppendAt
import Derived.OwnWalk
import Derived.Laws.BytesArg
import Derived.Laws.MakeOwn
import Derived.Laws.OwnMore
import Derived.Deep.OwnRows
import Derived.Tactics
import Derived.Lib.ConvBytes
import Derived.Laws.Slices
import Derived.WalkKit
import Derived.KernelRfl
import Derived.RowKit3
import Derived.Deep.LoopGhost
import Derived.Deep.QuietTactic
import Derived.BigQuiet
import Derived.WideLaws
import Derived.Deep.DeepCutAuto
import Derived.Deep.CutBlock
import Derived.Deep.RegionHeld3
import Derived.Laws.Rows
import Derived.Lib.AppendStr
import Derived.ArgAppend
import Derived.Laws.IdiomCopy
import Derived.OrdersHeld
import Derived.Laws.BitsLemmas
import Derived.RowKit
import Derived.Test.YtjcmmlbonljcnaaWWords
import Derived.Test.YtjcmmlbonljcnaaWLast
import Derived.Test.YtjcmmlbonljcnaaWTab
import Derived.Test.YtjcmmlbonljcnaaWFour
import Derived.Test.YtjcmmlbonljcnaaWQPut
import Derived.Test.YtjcmmlbonljcnaaWApart
import Derived.Test.YtjcmmlbonljcnaaWArr
import Derived.Test.YtjcmmlbonljcnaaWZeros
import Derived.Test.YtjcmmlbonljcnaaWFoot
import Derived.Test.YtjcmmlbonljcnaaWKept
import Derived.Test.YtjcmmlbonljcnaaWShare
import Derived.Test.YtjcmmlbonljcnaaWN
import Derived.Test.YtjcmmlbonljcnaaWFootNe
import Derived.Test.YtjcmmlbonljcnaaWAt
import Derived.Test.YtjcmmlbonljcnaaWEqStruct
import Derived.Test.YtjcmmlbonljcnaaWRepsOne
import Derived.Test.YtjcmmlbonljcnaaWInv
import Derived.Test.YtjcmmlbonljcnaaWInvWords
import Derived.Test.YtjcmmlbonljcnaaWGuard
import Derived.Test.YtjcmmlbonljcnaaWNEv
import Derived.Test.YtjcmmlbonljcnaaWMore
import Derived.Test.YtjcmmlbonljcnaaStrOrd
namespace Go.Proofs.Ytjcmmlbonljcnaa.X
open Go.RowKit Go.Proofs.YtjcmmlbonljcnaaW.PrintWords Go.Proofs.YtjcmmlbonljcnaaW.PrintLast Go.Proofs.YtjcmmlbonljcnaaW.PrintMore
attribute [local go_sem] binOp_str_gtr binOp_str_leq binOp_str_geq max2_int min2_int max_two min_two max_three min_three max_four min_four   -- for this text's walks alone
set_option linter.unusedVariables false
set_option linter.unusedSimpArgs false

theorem C_string_len {P : Program} {w : World} {src dst e : TypeId} {A : Option Addr} {n : Nat} {xs : List Int} (hs : P.underlying src = some (.slice e)) (he : P.underlying e = some (.int .u8)) (hd : P.underlying dst = some .string) (h : (Kd.int .u8).C w A n xs) : ∀ m c : Nat, m = n → (convert src dst (.slice A m c)).run P w = .ok (.string (strOfNums xs)) w := fun m c e_ => by subst e_; exact Kd.C_string hs he hd h
theorem same_call {α : Type} {f : Option α} {a b : α} (h : f = some a) (k : Aside0 (f = some b)) : b = a := Option.some.inj (k.out.symm.trans h)


def errW : Option Int → Value
  | none => .nilIface
  | some c => .iface 0 (.int .i64 c)
theorem errW_none : errW none = .nilIface := rfl
theorem errW_some (c : Int) : errW (some c) = .iface 0 (.int .i64 c) := rfl

theorem info3 : (Try.prog.info? 3).map (fun i => (i.zero, i.size, i.bytes)) = some (some (.int .i64 0), 1, 8) := by kernel_rfl
theorem info9 : (Try.prog.info? 9).map (fun i => (i.zero, i.size, i.bytes)) = some (some (.string ⟨#[]⟩), 1, 16) := by kernel_rfl
-- the values' own types
/-! #### struct type 56 -/
structure S56 where
  f0 : Int
  f1 : ByteArray
def z56 : S56 := ⟨(0 : Int), (⟨#[]⟩ : ByteArray)⟩
def k56 : Kd S56 := Kd.iso (Kd.pair (Kd.int .i64) Kd.string) (fun x : S56 => (x.f0, x.f1))
theorem k56_open {w : World} {x : S56} {cs : List Value} (h : k56.K w x cs) : cs = [.int .i64 x.f0, .string x.f1] := by
  obtain ⟨_, _, rfl, rfl, rfl⟩ := h
  exact rfl
theorem k56_openM {w : World} {base : Nat} {ok : Nat → Prop} {x : S56} {cs : List Value} (h : k56.M w base ok x cs) : cs = [.int .i64 x.f0, .string x.f1] := by
  obtain ⟨_, _, rfl, rfl, rfl⟩ := h
  exact rfl
theorem k56_mk (w : World) (x : S56)  : k56.K w x [.int .i64 x.f0, .string x.f1] := ⟨[.int .i64 x.f0], [.string x.f1], rfl, rfl, rfl⟩
theorem k56_mkM (w : World) (base : Nat) (ok : Nat → Prop) (x : S56)  : k56.M w base ok x [.int .i64 x.f0, .string x.f1] := ⟨[.int .i64 x.f0], [.string x.f1], rfl, rfl, rfl⟩
def rd_T56 (xs : List S56) (i : Int) : S56 := xs.getD i.toNat z56
theorem at_T56 {w : World} {A : Option Addr} {n : Nat} {xs : List S56} (h : Kd.C k56 w A n xs) (i : Int) (h0 : 0 ≤ i) (h1 : i < n) : ∃ ad , A = some ad ∧ w.cell? (ad.add (i.toNat * 2)) = some (.int .i64 (rd_T56 xs i).f0) ∧ w.cell? ⟨(ad.add (i.toNat * 2)).block, (ad.add (i.toNat * 2)).off + 1, none⟩ = some (.string (rd_T56 xs i).f1) := by
  obtain ⟨ad, c, e, _, hK, hc0⟩ := Kd.C_get h z56 i h0 h1
  have hc : ∀ j u, c[j]? = some u → w.cell? (ad.add (i.toNat * 2 + j)) = some u := hc0
  obtain rfl := k56_open hK
  exact ⟨ad, e, hc 0 _ rfl, by rw [← add_field _ _ 1 (by omega)]; exact hc 1 _ rfl⟩

end Go.Proofs.Ytjcmmlbonljcnaa.X
