/-
  No cell of these rows narrows 'for every input' (looked for: loops, veiled, ifaces, maps, wideKeys, modest, calm, conditions, laid).
  DERIVED. THE GIVEN ROWS OF THIS SEAT. 6 by the template 'for every input the law returns true; each argument reads behind the call as it read before'; 0 by the template 'total and deterministic' (their statements: YtmhdkjihhdljlaaTotals.lean).
  GIVEN WITH THE SEED: the statements are not yours to turn. If you find one false, say at which input.
  Laid BY PROGRAM, IN A SANDBOX (cutbox-rows.mjs): the forced cells as the released guide's own fill.sh prints them over the translation 6ba45058dd4cf104… (all of the seat's roots in one cut). By AI agents, Wed Nov 11 2026. No macro, syntax, notation, axiom, sorry.
-/
import Derived.Test.YtmhdkjihhdljlaaChecked
import GoSem.Claim
import GoSem.ClaimJoined
import GoSem.ClaimMapViews
import Derived.JoinedTies
import Derived.KernelRfl
namespace Go.Proofs.Ytmhdkjihhdljlaa
/- THE CELL 'sum', in the pinned program and in every row, IS THE sha256 OF THE DUMP (.gsa) THAT YtmhdkjihhdljlaaProg.lean LOADS. Nothing in Lean hashes anything: it is a label: what it is worth is what the hold of that sum in a sandbox is worth. -/
noncomputable def Try.pinned : Pinned := { name := "ytmhdkjihhdljlaa", sum := "6ba45058dd4cf1042f3dfea71b124d3d861dcf11df14c33a299c20b78c5b80c3", checked := Try.checked }
namespace Rows
def none {H : Type} : Left H := { results := [], args := [] }

/-- 'tipstafflaw10.StoreDues': WHATEVER THE INPUT: true; the input reads as it did. -/
def storeDuesSpec : ChangeSpec := { name := "storeDues", fn := fun _ => fun
  | [d1, d2, d3] => { results := [.lit (.bool true)], args := [d1, d2, d3] }
  | _ => none }
def storeDuesRow : OpenClaim := { program := "ytmhdkjihhdljlaa", sum := "6ba45058dd4cf1042f3dfea71b124d3d861dcf11df14c33a299c20b78c5b80c3", func := "tipstaff/tipstafflaw10.StoreDues", spec := "storeDues", apart := false }
def StoreDuesSaid : Prop := storeDuesRow.holds Try.pinned (OpenSpec.ofChange storeDuesSpec)

/-- ITS FALSE NEIGHBOUR: 'it returns false'. Refute it at one input. -/
def storeDuesWrong : ChangeSpec := { name := "storeDues", fn := fun _ => fun
  | [d1, d2, d3] => { results := [.lit (.bool false)], args := [d1, d2, d3] }
  | _ => none }
def StoreDuesWrongFalsely : Prop := storeDuesRow.holds Try.pinned (OpenSpec.ofChange storeDuesWrong)

/-- 'tipstafflaw10.StoreVersions': WHATEVER THE INPUT: true; the input reads as it did. -/
def storeVersionsSpec : ChangeSpec := { name := "storeVersions", fn := fun _ => fun
  | [d] => { results := [.lit (.bool true)], args := [d] }
  | _ => none }
def storeVersionsRow : OpenClaim := { program := "ytmhdkjihhdljlaa", sum := "6ba45058dd4cf1042f3dfea71b124d3d861dcf11df14c33a299c20b78c5b80c3", func := "tipstaff/tipstafflaw10.StoreVersions", spec := "storeVersions", apart := false }
def StoreVersionsSaid : Prop := storeVersionsRow.holds Try.pinned (OpenSpec.ofChange storeVersionsSpec)

/-- ITS FALSE NEIGHBOUR: 'it returns false'. Refute it at one input. -/
def storeVersionsWrong : ChangeSpec := { name := "storeVersions", fn := fun _ => fun
  | [d] => { results := [.lit (.bool false)], args := [d] }
  | _ => none }
def StoreVersionsWrongFalsely : Prop := storeVersionsRow.holds Try.pinned (OpenSpec.ofChange storeVersionsWrong)

/-- 'tipstafflaw10.StoreApart': WHATEVER THE INPUT: true; the input reads as it did. -/
def storeApartSpec : ChangeSpec := { name := "storeApart", fn := fun _ => fun
  | [d1, d2, d3] => { results := [.lit (.bool true)], args := [d1, d2, d3] }
  | _ => none }
def storeApartRow : OpenClaim := { program := "ytmhdkjihhdljlaa", sum := "6ba45058dd4cf1042f3dfea71b124d3d861dcf11df14c33a299c20b78c5b80c3", func := "tipstaff/tipstafflaw10.StoreApart", spec := "storeApart", apart := false }
def StoreApartSaid : Prop := storeApartRow.holds Try.pinned (OpenSpec.ofChange storeApartSpec)

/-- ITS FALSE NEIGHBOUR: 'it returns false'. Refute it at one input. -/
def storeApartWrong : ChangeSpec := { name := "storeApart", fn := fun _ => fun
  | [d1, d2, d3] => { results := [.lit (.bool false)], args := [d1, d2, d3] }
  | _ => none }
def StoreApartWrongFalsely : Prop := storeApartRow.holds Try.pinned (OpenSpec.ofChange storeApartWrong)

/-- 'tipstafflaw10.StoreTimes': WHATEVER THE INPUT: true; the input reads as it did. -/
def storeTimesSpec : ChangeSpec := { name := "storeTimes", fn := fun _ => fun
  | [d1, d2] => { results := [.lit (.bool true)], args := [d1, d2] }
  | _ => none }
def storeTimesRow : OpenClaim := { program := "ytmhdkjihhdljlaa", sum := "6ba45058dd4cf1042f3dfea71b124d3d861dcf11df14c33a299c20b78c5b80c3", func := "tipstaff/tipstafflaw10.StoreTimes", spec := "storeTimes", recurses := true, apart := false }
def StoreTimesSaid : Prop := storeTimesRow.holds Try.pinned (OpenSpec.ofChange storeTimesSpec)

/-- ITS FALSE NEIGHBOUR: 'it returns false'. Refute it at one input. -/
def storeTimesWrong : ChangeSpec := { name := "storeTimes", fn := fun _ => fun
  | [d1, d2] => { results := [.lit (.bool false)], args := [d1, d2] }
  | _ => none }
def StoreTimesWrongFalsely : Prop := storeTimesRow.holds Try.pinned (OpenSpec.ofChange storeTimesWrong)

/-- 'tipstafflaw10.StorePlays': WHATEVER THE INPUT: true; the input reads as it did. -/
def storePlaysSpec : ChangeSpec := { name := "storePlays", fn := fun _ => fun
  | [d] => { results := [.lit (.bool true)], args := [d] }
  | _ => none }
def storePlaysRow : OpenClaim := { program := "ytmhdkjihhdljlaa", sum := "6ba45058dd4cf1042f3dfea71b124d3d861dcf11df14c33a299c20b78c5b80c3", func := "tipstaff/tipstafflaw10.StorePlays", spec := "storePlays", recurses := true, apart := false }
def StorePlaysSaid : Prop := storePlaysRow.holds Try.pinned (OpenSpec.ofChange storePlaysSpec)

/-- ITS FALSE NEIGHBOUR: 'it returns false'. Refute it at one input. -/
def storePlaysWrong : ChangeSpec := { name := "storePlays", fn := fun _ => fun
  | [d] => { results := [.lit (.bool false)], args := [d] }
  | _ => none }
def StorePlaysWrongFalsely : Prop := storePlaysRow.holds Try.pinned (OpenSpec.ofChange storePlaysWrong)

/-- 'tipstafflaw10.StoreHeld': WHATEVER THE INPUT: true; the input reads as it did. -/
def storeHeldSpec : ChangeSpec := { name := "storeHeld", fn := fun _ => fun
  | [d] => { results := [.lit (.bool true)], args := [d] }
  | _ => none }
def storeHeldRow : OpenClaim := { program := "ytmhdkjihhdljlaa", sum := "6ba45058dd4cf1042f3dfea71b124d3d861dcf11df14c33a299c20b78c5b80c3", func := "tipstaff/tipstafflaw10.StoreHeld", spec := "storeHeld", recurses := true, apart := false }
def StoreHeldSaid : Prop := storeHeldRow.holds Try.pinned (OpenSpec.ofChange storeHeldSpec)

/-- ITS FALSE NEIGHBOUR: 'it returns false'. Refute it at one input. -/
def storeHeldWrong : ChangeSpec := { name := "storeHeld", fn := fun _ => fun
  | [d] => { results := [.lit (.bool false)], args := [d] }
  | _ => none }
def StoreHeldWrongFalsely : Prop := storeHeldRow.holds Try.pinned (OpenSpec.ofChange storeHeldWrong)

/- THE SECOND FORM. 'bulk': how many values and letters a reading holds, each counted each time it is reached (what is shared counts as often as it is met; a slice's spare places count too). A statement '..UptoSaid' is the law's where the arguments, and the package variables that the reading takes, are together of bulk at most 1048576: NARROWER than '..Said'. Prove '..Said' where nothing that the law and all that it calls make is longer than what came in: it says more and counts as full. Else prove '..UptoSaid'. A law counts once. -/
mutual
def uptoBulk {H : Type} : DataW H → Nat
  | .lit (.string bytes) => bytes.length + 1
  | .lit _ => 1
  | .nil => 1
  | .ptr d => uptoBulk d + 1
  | .slice elems spare => uptoBulkAll elems + uptoBulkAll spare + 1
  | .agg parts => uptoBulkAll parts + 1
  | .iface _ d => uptoBulk d + 1
  | .map entries => uptoBulkEntries entries + 1
  | .held _ => 1
def uptoBulkAll {H : Type} : List (DataW H) → Nat
  | [] => 0
  | d :: r => uptoBulk d + uptoBulkAll r
def uptoBulkEntries {H : Type} : List (Lit × DataW H) → Nat
  | [] => 0
  | x :: r => uptoBulkEntry x + uptoBulkEntries r
def uptoBulkEntry {H : Type} : Lit × DataW H → Nat
  | (.string bytes, d) => bytes.length + uptoBulk d + 1
  | (_, d) => uptoBulk d + 1
 end
def uptoSmall : (H : Type) → List (DataW H) → Bool := fun _ ds => decide (uptoBulkAll ds ≤ 1048576)
def OpenSpec.upto (s : _root_.Go.ChangeSpec) : _root_.Go.OpenSpec := { _root_.Go.OpenSpec.ofChange s with cond := some uptoSmall }

/-- 'tipstafflaw10.StoreDues', WHERE WHAT IT READS IS OF BULK AT MOST 1048576: true; the input reads as it did. -/
def storeDuesUptoRow : OpenClaim := { program := "ytmhdkjihhdljlaa", sum := "6ba45058dd4cf1042f3dfea71b124d3d861dcf11df14c33a299c20b78c5b80c3", func := "tipstaff/tipstafflaw10.StoreDues", spec := "storeDues", apart := false, narrowed := true }
def StoreDuesUptoSaid : Prop := storeDuesUptoRow.holds Try.pinned (OpenSpec.upto storeDuesSpec)

/-- 'tipstafflaw10.StoreVersions', WHERE WHAT IT READS IS OF BULK AT MOST 1048576: true; the input reads as it did. -/
def storeVersionsUptoRow : OpenClaim := { program := "ytmhdkjihhdljlaa", sum := "6ba45058dd4cf1042f3dfea71b124d3d861dcf11df14c33a299c20b78c5b80c3", func := "tipstaff/tipstafflaw10.StoreVersions", spec := "storeVersions", apart := false, narrowed := true }
def StoreVersionsUptoSaid : Prop := storeVersionsUptoRow.holds Try.pinned (OpenSpec.upto storeVersionsSpec)

/-- 'tipstafflaw10.StoreApart', WHERE WHAT IT READS IS OF BULK AT MOST 1048576: true; the input reads as it did. -/
def storeApartUptoRow : OpenClaim := { program := "ytmhdkjihhdljlaa", sum := "6ba45058dd4cf1042f3dfea71b124d3d861dcf11df14c33a299c20b78c5b80c3", func := "tipstaff/tipstafflaw10.StoreApart", spec := "storeApart", apart := false, narrowed := true }
def StoreApartUptoSaid : Prop := storeApartUptoRow.holds Try.pinned (OpenSpec.upto storeApartSpec)

/-- 'tipstafflaw10.StoreTimes', WHERE WHAT IT READS IS OF BULK AT MOST 1048576: true; the input reads as it did. -/
def storeTimesUptoRow : OpenClaim := { program := "ytmhdkjihhdljlaa", sum := "6ba45058dd4cf1042f3dfea71b124d3d861dcf11df14c33a299c20b78c5b80c3", func := "tipstaff/tipstafflaw10.StoreTimes", spec := "storeTimes", recurses := true, apart := false, narrowed := true }
def StoreTimesUptoSaid : Prop := storeTimesUptoRow.holds Try.pinned (OpenSpec.upto storeTimesSpec)

/-- 'tipstafflaw10.StorePlays', WHERE WHAT IT READS IS OF BULK AT MOST 1048576: true; the input reads as it did. -/
def storePlaysUptoRow : OpenClaim := { program := "ytmhdkjihhdljlaa", sum := "6ba45058dd4cf1042f3dfea71b124d3d861dcf11df14c33a299c20b78c5b80c3", func := "tipstaff/tipstafflaw10.StorePlays", spec := "storePlays", recurses := true, apart := false, narrowed := true }
def StorePlaysUptoSaid : Prop := storePlaysUptoRow.holds Try.pinned (OpenSpec.upto storePlaysSpec)

/-- 'tipstafflaw10.StoreHeld', WHERE WHAT IT READS IS OF BULK AT MOST 1048576: true; the input reads as it did. -/
def storeHeldUptoRow : OpenClaim := { program := "ytmhdkjihhdljlaa", sum := "6ba45058dd4cf1042f3dfea71b124d3d861dcf11df14c33a299c20b78c5b80c3", func := "tipstaff/tipstafflaw10.StoreHeld", spec := "storeHeld", recurses := true, apart := false, narrowed := true }
def StoreHeldUptoSaid : Prop := storeHeldUptoRow.holds Try.pinned (OpenSpec.upto storeHeldSpec)

end Rows
end Go.Proofs.Ytmhdkjihhdljlaa
