/- What the row's list of variables, and the world's shape, give; one start that fits. -/
import Derived.Test.YtencimfeipglaaaDoorELd
import Derived.LaidMore
import Derived.LaidHandle
import Derived.Lay
import Derived.Stop.LaidErr
import Derived.Stop.Joined
import Derived.ProofKit
import Derived.MakeChecks
import Derived.HandedShaped
import Derived.Shelf.Vars
set_option linter.unusedVariables false
namespace Go.Proofs.YtencimfeipglaaaDoor.X
open Go.ChangeShapes Go.WideShapes Go.RowKit

theorem tyTab : (Tryd.prog.globals[1]?).map (·.type) = some 147 := by kernel_rfl
theorem tySyn : (Tryd.prog.globals[2]?).map (·.type) = some 88 := by kernel_rfl
theorem tyRng : (Tryd.prog.globals[3]?).map (·.type) = some 88 := by kernel_rfl
theorem starS : "*" ++ "errors.errorString" = "*errors.errorString" := by decide
theorem rowES (u : TypeId) (h : Tryd.prog.typeName? 3 u = some "*errors.errorString") : u = 162 :=
  typeName_ptr_named (nm := "errors.errorString") (by rw [starS]; kernel_rfl) (by kernel_rfl) (by decide) u (by rw [starS]; exact h)
theorem cellsES : Tryd.prog.cellsOf 164 = 1 := by kernel_rfl
theorem cellsStr : Tryd.prog.cellsOf 9 = 1 := by kernel_rfl
theorem cellsTab : Tryd.prog.cellsOf 147 = 20 := by kernel_rfl
theorem cellsU64 : Tryd.prog.cellsOf 23 = 1 := by kernel_rfl

def theList : List (String × DataW Unit) := [("math/bits.deBruijn32tab", Rows.laid_math_bits_deBruijn32tab), ("math/bits.deBruijn64tab", Rows.laid_math_bits_deBruijn64tab), ("internal/strconv.uint64pow10", Rows.laid_internal_strconv_uint64pow10), ("unicode/utf8.acceptRanges", Rows.laid_unicode_utf8_acceptRanges), ("strconv.ErrRange", Rows.laid_strconv_ErrRange), ("strconv.ErrSyntax", Rows.laid_strconv_ErrSyntax), ("unicode/utf8.first", Rows.laid_unicode_utf8_first)]

theorem maxLen_int {W : World} (h : W.ShapedOpen Tryd.prog) : ∃ m, W.cell? ⟨0, 0, none⟩ = some (.int .i64 m) :=
  cell_of_shapedOpen_int (zero := #[.int .i64 0]) (t := 3) h (of_decide_eq_true (by kernel_rfl)) (by kernel_rfl) (by kernel_rfl) (by kernel_rfl) (by kernel_rfl) Tryd.underlying3

theorem Ld.of_laid {W : World} (h : laidMetH Tryd.prog theList W) (hs : W.ShapedOpen Tryd.prog) : Ld W := by
  rw [MakeChecks.laidMetH_plain _ _ _ (by kernel_rfl)] at h
  obtain ⟨a1, s1, h1, _⟩ := laid_sentinel (h.tail.tail.tail.tail) gRng tyRng Tryd.underlying88 rowES Tryd.underlying162 Tryd.underlying164 rfl rfl Tryd.underlying9 cellsES cellsStr
  obtain ⟨a0, s0, h0, _⟩ := laid_sentinel (h.tail.tail.tail.tail.tail) gSyn tySyn Tryd.underlying88 rowES Tryd.underlying162 Tryd.underlying164 rfl rfl Tryd.underlying9 cellsES cellsStr
  exact ⟨Lib.tabIs_of_head (zs := Lib.pow10Tab) gTab tyTab Tryd.underlying147 Tryd.underlying23 cellsU64 cellsTab (h.tail.tail), ⟨_, _, h0⟩, ⟨_, _, h1⟩, maxLen_int hs⟩

theorem all_met (os : Os) {args : Array Value} : laidMetH Tryd.prog theList ((World.laidAll Tryd.prog os theList).forCall (fun _ _ => 0) ⟨#[], args, []⟩).memory := by
  rw [MakeChecks.laidMetH_plain _ _ _ (by kernel_rfl)]
  exact laidMet_laidAll _ (by kernel_rfl) (by kernel_rfl)

/-- A call's contract, the listed variables and the world's shape both at hand. -/
theorem handed_shaped {H : Type} {enc : TypeId × Value → H} {a : Assume} {C : Checked} {os : Os} {f : FuncId} {fn : Func} {s : ChangeSpec} {conds : List PathCond} {apart fresh handsOn again : Bool} {X : World → Array Value → Prop}
    (hX : ∀ (w w' : World) (args : Array Value), w.heap = w'.heap → X w args → X w' args)
    (own : ownKnob C.prog.godebug = none) (started : os.Started) (noInit : C.prog.inits.idxOf? f = none) (hfn : C.prog.funcs[f]? = some fn)
    (witness : ∃ (w : World) (tape : Tape) (i : Input), w.os = os ∧ (w.forCall tape i).Shaped C.prog ∧ i.vars = [] ∧ Input.okWide C.prog (w.forCall tape i) .any w.heap.size f i ∧
      ((s.pre enc C.prog fn conds apart (w.forCall tape i).memory i.args ∧ X (w.forCall tape i).memory i.args) ∧ sizedMet enc C.prog fn (OpenSpec.ofChange s) apart (w.forCall tape i).memory i.args) ∧ a.holds C.prog (lone (Frame.enter C.prog f i.args .normal) [] (w.forCall tape i)))
    (contract : ∀ (W : World) (base : Nat) (args : Array Value) (ds gs : List (DataW H)) (before : List MemPlace),
      (∀ (j : Nat) t v, fn.params[j]? = some t → args[j]? = some v → Value.okWide C.prog W .any base t v) →
      DataW.Whole enc C.prog fn.params.toList s.vars apart W args.toList ds gs before →
      (DataW.weightsEach C.prog (fn.params.toList ++ s.plain.varTypes C.prog) (ds ++ gs)).all (· ≤ reachBytes) = true → X W args → W.ShapedOpen C.prog →
      Calls C.prog f args W fun e W' => ∃ v, e = .returned v ∧ s.post enc C.prog fn apart fresh handsOn again W args v W') :
    ReturnsInHanded a C os f .any (fun w args => (s.pre enc C.prog fn conds apart w args ∧ X w args) ∧ sizedMet enc C.prog fn (OpenSpec.ofChange s) apart w args) (s.post enc C.prog fn apart fresh handsOn again) := by
  refine returnsInHanded_of_calls own started noInit witness ?_
  rintro w tape i - hsh - ⟨_, _, _, fn', hfn', _, _, _, _, hval⟩ ⟨⟨⟨ds, gs, before, hw, -⟩, hx⟩, hz⟩ -
  obtain rfl : fn' = fn := Option.some.inj (hfn'.symm.trans hfn)
  refine (contract (w.forCall tape i) w.heap.size i.args ds gs before hval (DataW.Whole.of_heap (w' := w.forCall tape i) (by rfl) hw) (hz.weights hw) (hX _ _ _ (by rfl) hx) hsh).mono fun e W' ⟨v, he, hp⟩ => ?_
  subst he
  exact ChangeSpec.post_blind hp
end Go.Proofs.YtencimfeipglaaaDoor.X
