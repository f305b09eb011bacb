/-
  No cell of these rows narrows 'for every input' (looked for: loops, veiled, ifaces, maps, wideKeys, modest, calm, conditions, laid).
  DERIVED. THE GIVEN ROWS OF THIS SEAT. 4 by the template 'for every input the law returns true; each argument reads behind the call as it read before'; 0 by the template 'total and deterministic' (their statements: YtjcmmlbonljcnaaTotals.lean).
  GIVEN WITH THE SEED: the statements are not yours to turn. If you find one false, say at which input.
  Laid BY PROGRAM, IN A SANDBOX (cutbox-rows.mjs): the forced cells as the released guide's own fill.sh prints them over the translation 91949920ff37ce8c… (all of the seat's roots in one cut). By AI agents, Wed Nov 11 2026. No macro, syntax, notation, axiom, sorry.
-/
import Derived.Test.YtjcmmlbonljcnaaChecked
import GoSem.Claim
import GoSem.ClaimJoined
import GoSem.ClaimMapViews
import Derived.JoinedTies
import Derived.KernelRfl
namespace Go.Proofs.Ytjcmmlbonljcnaa
/- THE CELL 'sum', in the pinned program and in every row, IS THE sha256 OF THE DUMP (.gsa) THAT YtjcmmlbonljcnaaProg.lean LOADS. Nothing in Lean hashes anything: it is a label: what it is worth is what the hold of that sum in a sandbox is worth. -/
noncomputable def Try.pinned : Pinned := { name := "ytjcmmlbonljcnaa", sum := "91949920ff37ce8c792cb9590a5001167fb5c12ef3e88853c8f9a435d899eb27", checked := Try.checked }
namespace Rows
def none {H : Type} : Left H := { results := [], args := [] }

/-- 'tipstafflaw22.SubsTurns': WHATEVER THE INPUT: true; the input reads as it did. -/
def subsTurnsSpec : ChangeSpec := { name := "subsTurns", fn := fun _ => fun
  | [d1, d2, d3] => { results := [.lit (.bool true)], args := [d1, d2, d3] }
  | _ => none }
def subsTurnsRow : OpenClaim := { program := "ytjcmmlbonljcnaa", sum := "91949920ff37ce8c792cb9590a5001167fb5c12ef3e88853c8f9a435d899eb27", func := "tipstaff/tipstafflaw22.SubsTurns", spec := "subsTurns", recurses := true, plainKeys := false, apart := false }
def SubsTurnsSaid : Prop := subsTurnsRow.holds Try.pinned (OpenSpec.ofChange subsTurnsSpec)

/-- ITS FALSE NEIGHBOUR: 'it returns false'. Refute it at one input. -/
def subsTurnsWrong : ChangeSpec := { name := "subsTurns", fn := fun _ => fun
  | [d1, d2, d3] => { results := [.lit (.bool false)], args := [d1, d2, d3] }
  | _ => none }
def SubsTurnsWrongFalsely : Prop := subsTurnsRow.holds Try.pinned (OpenSpec.ofChange subsTurnsWrong)

/-- 'tipstafflaw22.SubsPlays': WHATEVER THE INPUT: true; the input reads as it did. -/
def subsPlaysSpec : ChangeSpec := { name := "subsPlays", fn := fun _ => fun
  | [d] => { results := [.lit (.bool true)], args := [d] }
  | _ => none }
def subsPlaysRow : OpenClaim := { program := "ytjcmmlbonljcnaa", sum := "91949920ff37ce8c792cb9590a5001167fb5c12ef3e88853c8f9a435d899eb27", func := "tipstaff/tipstafflaw22.SubsPlays", spec := "subsPlays", recurses := true, plainKeys := false, apart := false }
def SubsPlaysSaid : Prop := subsPlaysRow.holds Try.pinned (OpenSpec.ofChange subsPlaysSpec)

/-- ITS FALSE NEIGHBOUR: 'it returns false'. Refute it at one input. -/
def subsPlaysWrong : ChangeSpec := { name := "subsPlays", fn := fun _ => fun
  | [d] => { results := [.lit (.bool false)], args := [d] }
  | _ => none }
def SubsPlaysWrongFalsely : Prop := subsPlaysRow.holds Try.pinned (OpenSpec.ofChange subsPlaysWrong)

/-- 'tipstafflaw22.SubsBoth': WHATEVER THE INPUT: true; the input reads as it did. -/
def subsBothSpec : ChangeSpec := { name := "subsBoth", fn := fun _ => fun
  | [d1, d2] => { results := [.lit (.bool true)], args := [d1, d2] }
  | _ => none }
def subsBothRow : OpenClaim := { program := "ytjcmmlbonljcnaa", sum := "91949920ff37ce8c792cb9590a5001167fb5c12ef3e88853c8f9a435d899eb27", func := "tipstaff/tipstafflaw22.SubsBoth", spec := "subsBoth", recurses := true, plainKeys := false, apart := false }
def SubsBothSaid : Prop := subsBothRow.holds Try.pinned (OpenSpec.ofChange subsBothSpec)

/-- ITS FALSE NEIGHBOUR: 'it returns false'. Refute it at one input. -/
def subsBothWrong : ChangeSpec := { name := "subsBoth", fn := fun _ => fun
  | [d1, d2] => { results := [.lit (.bool false)], args := [d1, d2] }
  | _ => none }
def SubsBothWrongFalsely : Prop := subsBothRow.holds Try.pinned (OpenSpec.ofChange subsBothWrong)

/-- 'tipstafflaw22.SubsApart': WHATEVER THE INPUT: true; the input reads as it did. -/
def subsApartSpec : ChangeSpec := { name := "subsApart", fn := fun _ => fun
  | [d1, d2, d3] => { results := [.lit (.bool true)], args := [d1, d2, d3] }
  | _ => none }
def subsApartRow : OpenClaim := { program := "ytjcmmlbonljcnaa", sum := "91949920ff37ce8c792cb9590a5001167fb5c12ef3e88853c8f9a435d899eb27", func := "tipstaff/tipstafflaw22.SubsApart", spec := "subsApart", recurses := true, plainKeys := false, apart := false }
def SubsApartSaid : Prop := subsApartRow.holds Try.pinned (OpenSpec.ofChange subsApartSpec)

/-- ITS FALSE NEIGHBOUR: 'it returns false'. Refute it at one input. -/
def subsApartWrong : ChangeSpec := { name := "subsApart", fn := fun _ => fun
  | [d1, d2, d3] => { results := [.lit (.bool false)], args := [d1, d2, d3] }
  | _ => none }
def SubsApartWrongFalsely : Prop := subsApartRow.holds Try.pinned (OpenSpec.ofChange subsApartWrong)

/- THE SECOND FORM. 'bulk': how many values and letters a reading holds, each counted each time it is reached (what is shared counts as often as it is met; a slice's spare places count too). A statement '..UptoSaid' is the law's where the arguments, and the package variables that the reading takes, are together of bulk at most 1048576: NARROWER than '..Said'. Prove '..Said' where nothing that the law and all that it calls make is longer than what came in: it says more and counts as full. Else prove '..UptoSaid'. A law counts once. -/
mutual
def uptoBulk {H : Type} : DataW H → Nat
  | .lit (.string bytes) => bytes.length + 1
  | .lit _ => 1
  | .nil => 1
  | .ptr d => uptoBulk d + 1
  | .slice elems spare => uptoBulkAll elems + uptoBulkAll spare + 1
  | .agg parts => uptoBulkAll parts + 1
  | .iface _ d => uptoBulk d + 1
  | .map entries => uptoBulkEntries entries + 1
  | .held _ => 1
def uptoBulkAll {H : Type} : List (DataW H) → Nat
  | [] => 0
  | d :: r => uptoBulk d + uptoBulkAll r
def uptoBulkEntries {H : Type} : List (Lit × DataW H) → Nat
  | [] => 0
  | x :: r => uptoBulkEntry x + uptoBulkEntries r
def uptoBulkEntry {H : Type} : Lit × DataW H → Nat
  | (.string bytes, d) => bytes.length + uptoBulk d + 1
  | (_, d) => uptoBulk d + 1
 end
def uptoSmall : (H : Type) → List (DataW H) → Bool := fun _ ds => decide (uptoBulkAll ds ≤ 1048576)
def OpenSpec.upto (s : _root_.Go.ChangeSpec) : _root_.Go.OpenSpec := { _root_.Go.OpenSpec.ofChange s with cond := some uptoSmall }

/-- 'tipstafflaw22.SubsTurns', WHERE WHAT IT READS IS OF BULK AT MOST 1048576: true; the input reads as it did. -/
def subsTurnsUptoRow : OpenClaim := { program := "ytjcmmlbonljcnaa", sum := "91949920ff37ce8c792cb9590a5001167fb5c12ef3e88853c8f9a435d899eb27", func := "tipstaff/tipstafflaw22.SubsTurns", spec := "subsTurns", recurses := true, plainKeys := false, apart := false, narrowed := true }
def SubsTurnsUptoSaid : Prop := subsTurnsUptoRow.holds Try.pinned (OpenSpec.upto subsTurnsSpec)

/-- 'tipstafflaw22.SubsPlays', WHERE WHAT IT READS IS OF BULK AT MOST 1048576: true; the input reads as it did. -/
def subsPlaysUptoRow : OpenClaim := { program := "ytjcmmlbonljcnaa", sum := "91949920ff37ce8c792cb9590a5001167fb5c12ef3e88853c8f9a435d899eb27", func := "tipstaff/tipstafflaw22.SubsPlays", spec := "subsPlays", recurses := true, plainKeys := false, apart := false, narrowed := true }
def SubsPlaysUptoSaid : Prop := subsPlaysUptoRow.holds Try.pinned (OpenSpec.upto subsPlaysSpec)

/-- 'tipstafflaw22.SubsBoth', WHERE WHAT IT READS IS OF BULK AT MOST 1048576: true; the input reads as it did. -/
def subsBothUptoRow : OpenClaim := { program := "ytjcmmlbonljcnaa", sum := "91949920ff37ce8c792cb9590a5001167fb5c12ef3e88853c8f9a435d899eb27", func := "tipstaff/tipstafflaw22.SubsBoth", spec := "subsBoth", recurses := true, plainKeys := false, apart := false, narrowed := true }
def SubsBothUptoSaid : Prop := subsBothUptoRow.holds Try.pinned (OpenSpec.upto subsBothSpec)

/-- 'tipstafflaw22.SubsApart', WHERE WHAT IT READS IS OF BULK AT MOST 1048576: true; the input reads as it did. -/
def subsApartUptoRow : OpenClaim := { program := "ytjcmmlbonljcnaa", sum := "91949920ff37ce8c792cb9590a5001167fb5c12ef3e88853c8f9a435d899eb27", func := "tipstaff/tipstafflaw22.SubsApart", spec := "subsApart", recurses := true, plainKeys := false, apart := false, narrowed := true }
def SubsApartUptoSaid : Prop := subsApartUptoRow.holds Try.pinned (OpenSpec.upto subsApartSpec)

end Rows
end Go.Proofs.Ytjcmmlbonljcnaa
