/- rule.Parse: what it computes. -/
import Derived.Test.YtencimfeipglaaaDoorMapOps
import Derived.Test.YtencimfeipglaaaDoorPRul2
import Derived.Test.YtencimfeipglaaaDoorXx25
import Derived.Test.YtencimfeipglaaaDoorXx25
import Derived.StringKeys
set_option linter.unusedVariables false
set_option linter.unusedSimpArgs false
namespace Go.Proofs.YtencimfeipglaaaDoor.X
open Go.RowKit Go.Maps Go.ChangeMaps Go.MapKept Go.Proofs.YtencimfeipglaaaDoor.Mv Go.Proofs.YtencimfeipglaaaDoorW.PrintWords Go.Proofs.YtencimfeipglaaaDoorW.PrintLast Go.Proofs.YtencimfeipglaaaDoorW.PrintMore

theorem law9 : Keyed Tryd.prog 9 := string_keyed Tryd.underlying9
theorem key9 {s : ByteArray} (hs : s.size ≤ maxLen) : keyOf Tryd.prog 9 (.string s) = some (.string s.data.toList) := Go.WideMaps.keyOf_string_mk Tryd.underlying9 hs
def rv (x : RT) : Value := .agg #[.int .u8 x.1, .string x.2.1, .bool x.2.2.1, .bool x.2.2.2.1, .int .u64 x.2.2.2.2.1]
theorem zeroRule (w : World) : (zeroValue 25).run Tryd.prog w = .ok (rv zeroR) w := by kernel_rfl

section
variable {P : Program} (w : World) {ops : Array Oper} {rest : List Oper} {o : Oper} {a : Act} {Q : Exit → Act → World → Prop}
/-- A literal's entry. -/
theorem op_insert (hg : o.guard = none) (m x v : Operand) (t : TypeId) (hop : o.op = Op.insert t m x v)
    (k e : TypeId) (K : Keyed P k) (ht : P.underlying t = some (.map k e)) (b n : Nat) (M : Lit → Option Value)
    (hm : a.eval m = .map (some b)) (h : MapV P k w b n M) (hn : n < maxLen) (key val : Value) (kl : Lit) (hx : a.eval x = key) (hv : a.eval v = val) (hkey : keyOf P k key = some kl)
    (hK : ∀ w', MapV P k w' b (n + 1) (upd M kl (some val)) → w.mapTurned w' b → wpList P ops Q rest (a.put o.dst undef) w') :
    wpList P ops Q (o :: rest) a w := by
  refine wpList_plain hg fun K' hK' => ?_
  obtain ⟨w', hrun, r1, r2⟩ := h.store K ht hn val hkey
  unfold Oper.wp
  simp [execOp, hop, hm, hx, hv, hrun, Result.andThen]
  exact hK' _ _ (hK w' r1 r2)
end
noncomputable def foldM (L : List (List UInt8 × RT)) (M : Lit → Option Value) : Lit → Option Value := L.foldl (fun M p => upd M (.string p.1) (some (rv p.2))) M
theorem foldM_at (l : List UInt8) : ∀ (L : List (List UInt8 × RT)) (M : Lit → Option Value), (L.map (·.1)).Nodup → foldM L M (.string l) = match L.lookup l with | some r => some (rv r) | none => M (.string l)
  | [], M, _ => rfl
  | p :: L, M, h => by
    have hn := List.nodup_cons.1 h
    have ih := foldM_at l L (upd M (.string p.1) (some (rv p.2))) hn.2
    show foldM L (upd M (.string p.1) (some (rv p.2))) (.string l) = _
    rw [ih, List.lookup_cons]
    by_cases he : l = p.1
    · subst he
      have hno : L.lookup p.1 = none := by
        rw [List.lookup_eq_none_iff]
        intro q hq
        rw [bne_iff_ne]
        intro e
        exact hn.1 (List.mem_map.2 ⟨q, hq, e.symm⟩)
      rw [hno, beq_self_eq_true]
      exact Go.Proofs.YtencimfeipglaaaDoor.Mv.upd_same _ _ _
    · rw [beq_eq_false_iff_ne.2 he]
      have hu : upd M (.string p.1) (some (rv p.2)) (.string l) = M (.string l) := Go.Proofs.YtencimfeipglaaaDoor.Mv.upd_other _ _ (fun e => he (by injection e))
      rw [hu]
noncomputable def wordsM : Lit → Option Value := foldM words11 (fun _ => none)
theorem wordsM_at (l : List UInt8) : wordsM (.string l) = match words11.lookup l with | some r => some (rv r) | none => none := foldM_at l words11 (fun _ => none) (by decide)

set_option maxHeartbeats 4000000 in
set_option maxRecDepth 100000 in
theorem words_any (w : World) : Calls Tryd.prog 36 #[] w fun e w' => ∃ b, e = .returned (.map (some b)) ∧ MapV Tryd.prog 9 w' b 11 wordsM ∧ Below w.heap.size w w' := by
  have hmm := @run_makeMap Tryd.prog
  have HC := Aside0.mk (cat_in ([97, 108, 108], 72057594037927935) (by decide))
  go_enter Tryd.func36, Tryd.ntmps36
  go_wp2_with fail
  refine (table_Cat.calls 100 ⟨#[97, 108, 108]⟩ 72057594037927935 true _ HC.out).mono ?_
  rintro e w1 ⟨rfl, hb⟩
  have HB := Aside0.mk hb
  have HM := Aside0.mk (MapV.made w1 Tryd.prog 9)
  have hle := Aside0.mk hb.size
  have HK := Aside0.mk ((Mv.Kp.of_below (S := fun k => w.heap.size ≤ k) hb).alloc (.map #[] 0))
  obtain ⟨w3, hw3⟩ : ∃ w3, w1.alloc (.map #[] 0) = w3 := ⟨_, rfl⟩
  obtain ⟨q, hq⟩ : ∃ q, w1.heap.size = q := ⟨_, rfl⟩
  rw [hw3] at HM HK
  rw [hq] at HM hle
  clear hb
  go_wp2_with (first | (refine op_insert _ rfl _ _ _ 64 rfl 9 25 law9 Tryd.underlying64 _ _ _ rfl HM.out (by decide) (.string ⟨#[111, 110]⟩) (.agg #[.int .u8 1, .string ⟨#[]⟩, .bool false, .bool false, .int .u64 0]) (.string [111, 110]) rfl rfl (key9 (by decide)) ?_; intro w2 hm2 ht2; have n1_ := Aside0.mk hm2; have n2_ := Aside0.mk (HK.out.turned ht2 (.inr hle.out)); clear HM HK hm2 ht2; have HM := n1_; have HK := n2_; clear n1_ n2_) | (refine op_insert _ rfl _ _ _ 64 rfl 9 25 law9 Tryd.underlying64 _ _ _ rfl HM.out (by decide) (.string ⟨#[111, 102, 102]⟩) (.agg #[.int .u8 2, .string ⟨#[]⟩, .bool false, .bool false, .int .u64 0]) (.string [111, 102, 102]) rfl rfl (key9 (by decide)) ?_; intro w2 hm2 ht2; have n1_ := Aside0.mk hm2; have n2_ := Aside0.mk (HK.out.turned ht2 (.inr hle.out)); clear HM HK hm2 ht2; have HM := n1_; have HK := n2_; clear n1_ n2_) | (refine op_insert _ rfl _ _ _ 64 rfl 9 25 law9 Tryd.underlying64 _ _ _ rfl HM.out (by decide) (.string ⟨#[110, 111, 112, 97, 115, 115]⟩) (.agg #[.int .u8 3, .string ⟨#[]⟩, .bool false, .bool false, .int .u64 0]) (.string [110, 111, 112, 97, 115, 115]) rfl rfl (key9 (by decide)) ?_; intro w2 hm2 ht2; have n1_ := Aside0.mk hm2; have n2_ := Aside0.mk (HK.out.turned ht2 (.inr hle.out)); clear HM HK hm2 ht2; have HM := n1_; have HK := n2_; clear n1_ n2_) | (refine op_insert _ rfl _ _ _ 64 rfl 9 25 law9 Tryd.underlying64 _ _ _ rfl HM.out (by decide) (.string ⟨#[114, 101, 115, 101, 116, 112, 97, 115, 115]⟩) (.agg #[.int .u8 4, .string ⟨#[]⟩, .bool false, .bool false, .int .u64 0]) (.string [114, 101, 115, 101, 116, 112, 97, 115, 115]) rfl rfl (key9 (by decide)) ?_; intro w2 hm2 ht2; have n1_ := Aside0.mk hm2; have n2_ := Aside0.mk (HK.out.turned ht2 (.inr hle.out)); clear HM HK hm2 ht2; have HM := n1_; have HK := n2_; clear n1_ n2_) | (refine op_insert _ rfl _ _ _ 64 rfl 9 25 law9 Tryd.underlying64 _ _ _ rfl HM.out (by decide) (.string ⟨#[114, 101, 115, 101, 116, 107, 101, 121, 115]⟩) (.agg #[.int .u8 11, .string ⟨#[]⟩, .bool false, .bool false, .int .u64 0]) (.string [114, 101, 115, 101, 116, 107, 101, 121, 115]) rfl rfl (key9 (by decide)) ?_; intro w2 hm2 ht2; have n1_ := Aside0.mk hm2; have n2_ := Aside0.mk (HK.out.turned ht2 (.inr hle.out)); clear HM HK hm2 ht2; have HM := n1_; have HK := n2_; clear n1_ n2_) | (refine op_insert _ rfl _ _ _ 64 rfl 9 25 law9 Tryd.underlying64 _ _ _ rfl HM.out (by decide) (.string ⟨#[114, 101, 115, 101, 116, 99, 104, 97, 110, 110, 101, 108, 115]⟩) (.agg #[.int .u8 13, .string ⟨#[]⟩, .bool false, .bool false, .int .u64 0]) (.string [114, 101, 115, 101, 116, 99, 104, 97, 110, 110, 101, 108, 115]) rfl rfl (key9 (by decide)) ?_; intro w2 hm2 ht2; have n1_ := Aside0.mk hm2; have n2_ := Aside0.mk (HK.out.turned ht2 (.inr hle.out)); clear HM HK hm2 ht2; have HM := n1_; have HK := n2_; clear n1_ n2_) | (refine op_insert _ rfl _ _ _ 64 rfl 9 25 law9 Tryd.underlying64 _ _ _ rfl HM.out (by decide) (.string ⟨#[114, 101, 115, 101, 116]⟩) (.agg #[.int .u8 14, .string ⟨#[]⟩, .bool false, .bool false, .int .u64 0]) (.string [114, 101, 115, 101, 116]) rfl rfl (key9 (by decide)) ?_; intro w2 hm2 ht2; have n1_ := Aside0.mk hm2; have n2_ := Aside0.mk (HK.out.turned ht2 (.inr hle.out)); clear HM HK hm2 ht2; have HM := n1_; have HK := n2_; clear n1_ n2_) | (refine op_insert _ rfl _ _ _ 64 rfl 9 25 law9 Tryd.underlying64 _ _ _ rfl HM.out (by decide) (.string ⟨#[97, 108, 108, 99, 111, 109, 109, 97, 110, 100, 115]⟩) (.agg #[.int .u8 8, .string ⟨#[]⟩, .bool false, .bool false, .int .u64 72057594037927935]) (.string [97, 108, 108, 99, 111, 109, 109, 97, 110, 100, 115]) rfl rfl (key9 (by decide)) ?_; intro w2 hm2 ht2; have n1_ := Aside0.mk hm2; have n2_ := Aside0.mk (HK.out.turned ht2 (.inr hle.out)); clear HM HK hm2 ht2; have HM := n1_; have HK := n2_; clear n1_ n2_) | (refine op_insert _ rfl _ _ _ 64 rfl 9 25 law9 Tryd.underlying64 _ _ _ rfl HM.out (by decide) (.string ⟨#[110, 111, 99, 111, 109, 109, 97, 110, 100, 115]⟩) (.agg #[.int .u8 9, .string ⟨#[]⟩, .bool false, .bool false, .int .u64 72057594037927935]) (.string [110, 111, 99, 111, 109, 109, 97, 110, 100, 115]) rfl rfl (key9 (by decide)) ?_; intro w2 hm2 ht2; have n1_ := Aside0.mk hm2; have n2_ := Aside0.mk (HK.out.turned ht2 (.inr hle.out)); clear HM HK hm2 ht2; have HM := n1_; have HK := n2_; clear n1_ n2_) | (refine op_insert _ rfl _ _ _ 64 rfl 9 25 law9 Tryd.underlying64 _ _ _ rfl HM.out (by decide) (.string ⟨#[97, 108, 108, 107, 101, 121, 115]⟩) (.agg #[.int .u8 10, .string ⟨#[42]⟩, .bool true, .bool true, .int .u64 0]) (.string [97, 108, 108, 107, 101, 121, 115]) rfl rfl (key9 (by decide)) ?_; intro w2 hm2 ht2; have n1_ := Aside0.mk hm2; have n2_ := Aside0.mk (HK.out.turned ht2 (.inr hle.out)); clear HM HK hm2 ht2; have HM := n1_; have HK := n2_; clear n1_ n2_) | (refine op_insert _ rfl _ _ _ 64 rfl 9 25 law9 Tryd.underlying64 _ _ _ rfl HM.out (by decide) (.string ⟨#[97, 108, 108, 99, 104, 97, 110, 110, 101, 108, 115]⟩) (.agg #[.int .u8 12, .string ⟨#[42]⟩, .bool false, .bool false, .int .u64 0]) (.string [97, 108, 108, 99, 104, 97, 110, 110, 101, 108, 115]) rfl rfl (key9 (by decide)) ?_; intro w2 hm2 ht2; have n1_ := Aside0.mk hm2; have n2_ := Aside0.mk (HK.out.turned ht2 (.inr hle.out)); clear HM HK hm2 ht2; have HM := n1_; have HK := n2_; clear n1_ n2_))
  go_ret
  exact ⟨q, rfl, HM.out, HK.out.below (fun k hk => hk)⟩

theorem named_al (w : World) (cs : Array Value) (t : TypeId) : ∃ w1, w.alloc (.cells cs t) = w1 ∧ Aside0 (Below w.heap.size w w1) ∧ Aside0 (w1.heap[w.heap.size]? = some (.cells cs t (0, 0))) :=
  ⟨_, rfl, ⟨(Below.refl _ _).alloc (Nat.le_refl _) _⟩, ⟨heap_alloc_new w (.cells cs t)⟩⟩
theorem set5r {w : World} {q : Nat} {t : TypeId} {a0 a1 a2 a3 a4 : Value} (h : w.heap[q]? = some (.cells #[a0, a1, a2, a3, a4] t (0, 0))) (b0 b1 b2 b3 b4 : Value) :
    (((((w.setCell ⟨q, 0, none⟩ b0).setCell ⟨q, 1, none⟩ b1).setCell ⟨q, 2, none⟩ b2).setCell ⟨q, 3, none⟩ b3).setCell ⟨q, 4, none⟩ b4).heap[q]? = some (.cells #[b0, b1, b2, b3, b4] t (0, 0)) :=
  blk_put (blk_put (blk_put (blk_put (blk_put h 0 b0 rfl) 1 b1 rfl) 2 b2 rfl) 3 b3 rfl) 4 b4 rfl
theorem off5r (w : World) (q : Nat) (b0 b1 b2 b3 b4 : Value) (k : Nat) (hk : k ≠ q) :
    (((((w.setCell ⟨q, 0, none⟩ b0).setCell ⟨q, 1, none⟩ b1).setCell ⟨q, 2, none⟩ b2).setCell ⟨q, 3, none⟩ b3).setCell ⟨q, 4, none⟩ b4).heap[k]? = w.heap[k]? := by
  rw [Below.heap_setCell _ _ _ _ hk, Below.heap_setCell _ _ _ _ hk, Below.heap_setCell _ _ _ _ hk, Below.heap_setCell _ _ _ _ hk, Below.heap_setCell _ _ _ _ hk]
theorem below5 {w W : World} {q : Nat} (h : Below w.heap.size w W) (hq : w.heap.size ≤ q) (b0 b1 b2 b3 b4 : Value) : Below w.heap.size w (((((W.setCell ⟨q, 0, none⟩ b0).setCell ⟨q, 1, none⟩ b1).setCell ⟨q, 2, none⟩ b2).setCell ⟨q, 3, none⟩ b3).setCell ⟨q, 4, none⟩ b4) :=
  below_set (below_set (below_set (below_set (below_set h hq) hq) hq) hq) hq
structure Cells5 (w : World) (q : Nat) (a0 a1 a2 a3 a4 : Value) : Prop where
  z0 : w.cell? ⟨q, 0, none⟩ = some a0
  z1 : w.cell? ⟨q, 1, none⟩ = some a1
  z2 : w.cell? ⟨q, 2, none⟩ = some a2
  z3 : w.cell? ⟨q, 3, none⟩ = some a3
  z4 : w.cell? ⟨q, 4, none⟩ = some a4
  f0 : w.frozen? ⟨q, 0, none⟩ = false
  f1 : w.frozen? ⟨q, 1, none⟩ = false
  f2 : w.frozen? ⟨q, 2, none⟩ = false
  f3 : w.frozen? ⟨q, 3, none⟩ = false
  f4 : w.frozen? ⟨q, 4, none⟩ = false
theorem cells5 {w : World} {q : Nat} {t : TypeId} {a0 a1 a2 a3 a4 : Value} (h : w.heap[q]? = some (.cells #[a0, a1, a2, a3, a4] t (0, 0))) : Cells5 w q a0 a1 a2 a3 a4 :=
  ⟨(pw_cells h 0).1, (pw_cells h 1).1, (pw_cells h 2).1, (pw_cells h 3).1, (pw_cells h 4).1, (pw_cells h 0).2, (pw_cells h 1).2, (pw_cells h 2).2, (pw_cells h 3).2, (pw_cells h 4).2⟩

set_option maxHeartbeats 4000000 in
set_option maxRecDepth 100000 in
theorem parse_some (s : ByteArray) (hs : s.size ≤ 1000) (w : World) (k0 : Int) (t0 : ByteArray) (r0 w0 : Bool) (m0 : Int) (hW : wordsM (.string s.data.toList) = some (.agg #[.int .u8 k0, .string t0, .bool r0, .bool w0, .int .u64 m0])) :
    Calls Tryd.prog 15 #[.string s] w fun e w' => e = .returned (.tuple #[.agg #[.int .u8 k0, .string t0, .bool r0, .bool w0, .int .u64 m0], .bool true]) ∧ Below w.heap.size w w' := by
  obtain ⟨v0, hv0, HB0, HC0⟩ := named_al w #[.int .u8 0, .string ⟨#[]⟩, .bool false, .bool false, .int .u64 0] 25
  have hkey := key9 (s := s) (by unfold maxLen; omega)
  have HW := Aside0.mk hW
  clear hW
  go_enter Tryd.func15, Tryd.ntmps15
  go_wp2_with fail
  refine (words_any v0).mono ?_
  rintro e w1 ⟨b, rfl, hm, hb⟩
  have HM := Aside0.mk hm
  have HG := Aside0.mk ((hb.block w.heap.size (pw_lt HC0.out)).trans HC0.out)
  have HB1 := Aside0.mk (below_then HB0.out HB0.out.size hb)
  clear hm hb
  obtain ⟨w2, hw2, HB2, HC2⟩ := named_al w1 #[.int .u8 0, .string ⟨#[]⟩, .bool false, .bool false, .int .u64 0] 25
  obtain ⟨q, hq⟩ : ∃ q, w1.heap.size = q := ⟨_, rfl⟩
  have HQ := Aside0.mk (show w.heap.size < q by rw [← hq]; exact pw_lt HG.out)
  have HG2 := Aside0.mk ((HB2.out.block w.heap.size (pw_lt HG.out)).trans HG.out)
  rw [hq] at HC2 HB2
  obtain ⟨a0, a1, a2, a3, a4, g0, g1, g2, g3, g4⟩ := cells5 HC2.out
  obtain ⟨c0, c1, c2, c3, c4, f0, f1, f2, f3, f4⟩ := cells5 HG2.out
  have n1 : ¬ (w.heap.size = q) := by have := HQ.out; omega
  have n2 : ¬ (q = w.heap.size) := by have := HQ.out; omega
  go_wp2_with (at_lookup; refine op_lookok _ rfl _ _ 64 rfl 9 25 law9 Tryd.underlying64 _ (zeroRule _) b 11 wordsM rfl HM.out _ _ rfl hkey ?_; rw [HW.out]; simp only [Option.getD_some, Option.isSome_some])
  refine bodyPost_ret (results_ct rfl _ _ w.heap.size 25 #[.int .u8 k0, .string t0, .bool r0, .bool w0, .int .u64 m0] (0, 0) _ rfl (set5r ((off5r _ _ _ _ _ _ _ _ n1).trans HG2.out) _ _ _ _ _) Tryd.underlying25 rfl (by kernel_rfl)) rfl ?_
  exact ⟨rfl, below5 (below5 (below_then HB1.out HB1.out.size (by rw [hq]; exact HB2.out)) (Nat.le_of_lt HQ.out) _ _ _ _ _) (Nat.le_refl _) _ _ _ _ _⟩

set_option maxHeartbeats 4000000 in
set_option maxRecDepth 100000 in
theorem parse_empty (w : World) :
    Calls Tryd.prog 15 #[.string ⟨#[]⟩] w fun e w' => e = .returned (.tuple #[.agg #[.int .u8 0, .string ⟨#[]⟩, .bool false, .bool false, .int .u64 0], .bool false]) ∧ Below w.heap.size w w' := by
  obtain ⟨v0, hv0, HB0, HC0⟩ := named_al w #[.int .u8 0, .string ⟨#[]⟩, .bool false, .bool false, .int .u64 0] 25
  have hkey := key9 (s := ⟨#[]⟩) (by decide)
  have HW := Aside0.mk (show wordsM (.string (⟨#[]⟩ : ByteArray).data.toList) = none from wordsM_at _)
  go_enter Tryd.func15, Tryd.ntmps15
  go_wp2_with fail
  refine (words_any v0).mono ?_
  rintro e w1 ⟨b, rfl, hm, hb⟩
  have HM := Aside0.mk hm
  have HG := Aside0.mk ((hb.block w.heap.size (pw_lt HC0.out)).trans HC0.out)
  have HB1 := Aside0.mk (below_then HB0.out HB0.out.size hb)
  clear hm hb
  obtain ⟨w2, hw2, HB2, HC2⟩ := named_al w1 #[.int .u8 0, .string ⟨#[]⟩, .bool false, .bool false, .int .u64 0] 25
  obtain ⟨q, hq⟩ : ∃ q, w1.heap.size = q := ⟨_, rfl⟩
  have HQ := Aside0.mk (show w.heap.size < q by rw [← hq]; exact pw_lt HG.out)
  have HG2 := Aside0.mk ((HB2.out.block w.heap.size (pw_lt HG.out)).trans HG.out)
  rw [hq] at HC2 HB2
  obtain ⟨a0, a1, a2, a3, a4, g0, g1, g2, g3, g4⟩ := cells5 HC2.out
  obtain ⟨c0, c1, c2, c3, c4, f0, f1, f2, f3, f4⟩ := cells5 HG2.out
  have n1 : ¬ (w.heap.size = q) := by have := HQ.out; omega
  have n2 : ¬ (q = w.heap.size) := by have := HQ.out; omega
  go_wp2_with (at_lookup; refine op_lookok _ rfl _ _ 64 rfl 9 25 law9 Tryd.underlying64 _ (zeroRule _) b 11 wordsM rfl HM.out _ _ rfl hkey ?_; rw [HW.out]; simp only [Option.getD_none, Option.isSome_none, rv, zeroR])
  refine bodyPost_ret (results_ct rfl _ _ w.heap.size 25 #[.int .u8 0, .string ⟨#[]⟩, .bool false, .bool false, .int .u64 0] (0, 0) _ rfl (set5r ((off5r _ _ _ _ _ _ _ _ n1).trans HG2.out) _ _ _ _ _) Tryd.underlying25 rfl (by kernel_rfl)) rfl ?_
  exact ⟨rfl, below5 (below5 (below_then HB1.out HB1.out.size (by rw [hq]; exact HB2.out)) (Nat.le_of_lt HQ.out) _ _ _ _ _) (Nat.le_refl _) _ _ _ _ _⟩

set_option maxHeartbeats 8000000 in
set_option maxRecDepth 100000 in
theorem parse_none (s : ByteArray) (hs : s.size ≤ 1000) (h0 : s.toList ≠ []) (w : World) (hLd : Ld w) (hW : wordsM (.string s.data.toList) = none) (k : Nat) (k0 : Int) (t0 : ByteArray) (r0 w0 : Bool) (m0 : Int) (ok : Bool) (hR : rule_read.f k s = some (k0, t0, r0, w0, m0, ok)) (x : RT) (hx : finR (k0, t0, r0, w0, m0, ok) = x) :
    Calls Tryd.prog 15 #[.string s] w fun e w' => e = .returned (.tuple #[rv x, .bool x.2.2.2.2.2]) ∧ Below w.heap.size w w' := by
  obtain ⟨v0, hv0, HB0, HC0⟩ := named_al w #[.int .u8 0, .string ⟨#[]⟩, .bool false, .bool false, .int .u64 0] 25
  have hkey := key9 (s := s) (by unfold maxLen; omega)
  have HW := Aside0.mk hW
  have HR := Aside0.mk hR
  have HX := Aside0.mk hx
  have HL := Aside0.mk hLd
  have h0b : (s.toList == []) = false := beq_eq_false_iff_ne.2 h0
  have h0c : s.toList.isEmpty = false := by cases hh : s.toList with
    | nil => exact absurd hh h0
    | cons => rfl
  clear hW hR hx hLd h0
  go_enter Tryd.func15, Tryd.ntmps15
  go_wp2_with fail
  refine (words_any v0).mono ?_
  rintro e w1 ⟨b, rfl, hm, hb⟩
  have HM := Aside0.mk hm
  have HG := Aside0.mk ((hb.block w.heap.size (pw_lt HC0.out)).trans HC0.out)
  have HB1 := Aside0.mk (below_then HB0.out HB0.out.size hb)
  clear hm hb
  obtain ⟨w2, hw2, HB2, HC2⟩ := named_al w1 #[.int .u8 0, .string ⟨#[]⟩, .bool false, .bool false, .int .u64 0] 25
  obtain ⟨q, hq⟩ : ∃ q, w1.heap.size = q := ⟨_, rfl⟩
  have HQ := Aside0.mk (show w.heap.size < q by rw [← hq]; exact pw_lt HG.out)
  have HG2 := Aside0.mk ((HB2.out.block w.heap.size (pw_lt HG.out)).trans HG.out)
  rw [hq] at HC2 HB2
  obtain ⟨a0, a1, a2, a3, a4, g0, g1, g2, g3, g4⟩ := cells5 HC2.out
  obtain ⟨c0, c1, c2, c3, c4, f0, f1, f2, f3, f4⟩ := cells5 HG2.out
  have n1 : ¬ (w.heap.size = q) := by have := HQ.out; omega
  have n2 : ¬ (q = w.heap.size) := by have := HQ.out; omega
  go_wp2_with (at_lookup; refine op_lookok _ rfl _ _ 64 rfl 9 25 law9 Tryd.underlying64 _ (zeroRule _) b 11 wordsM rfl HM.out _ _ rfl hkey ?_; rw [HW.out]; simp only [Option.getD_none, Option.isSome_none, rv, zeroR])
  have HB3 := Aside0.mk (below5 (below_then HB1.out HB1.out.size (by rw [hq]; exact HB2.out)) (Nat.le_of_lt HQ.out) (.int .u8 0) (.string ⟨#[]⟩) (.bool false) (.bool false) (.int .u64 0))
  have HG3 := Aside0.mk ((off5r w2 q (.int .u8 0) (.string ⟨#[]⟩) (.bool false) (.bool false) (.int .u64 0) w.heap.size n1).trans HG2.out)
  clear a0 a1 a2 a3 a4 g0 g1 g2 g3 g4 c0 c1 c2 c3 c4 f0 f1 f2 f3 f4 n1 n2
  refine (rule_read.calls k s k0 t0 r0 w0 m0 ok _ (HL.out.below HB3.out) HR.out).mono ?_
  rintro e w5 ⟨rfl, hb⟩
  have HG5 := Aside0.mk ((hb.block w.heap.size (pw_lt HG3.out)).trans HG3.out)
  have HB5 := Aside0.mk (below_then HB3.out HB3.out.size hb)
  clear hb
  obtain ⟨w6, hw6, HB6, HC6⟩ := named_al w5 #[.int .u8 0, .string ⟨#[]⟩, .bool false, .bool false, .int .u64 0] 25
  obtain ⟨p, hp⟩ : ∃ p, w5.heap.size = p := ⟨_, rfl⟩
  have HP := Aside0.mk (show w.heap.size < p by rw [← hp]; exact pw_lt HG5.out)
  have HG6 := Aside0.mk ((HB6.out.block w.heap.size (pw_lt HG5.out)).trans HG5.out)
  rw [hp] at HC6 HB6
  obtain ⟨a0, a1, a2, a3, a4, g0, g1, g2, g3, g4⟩ := cells5 HC6.out
  obtain ⟨c0, c1, c2, c3, c4, f0, f1, f2, f3, f4⟩ := cells5 HG6.out
  have n1 : ¬ (w.heap.size = p) := by have := HP.out; omega
  have n2 : ¬ (p = w.heap.size) := by have := HP.out; omega
  cases ok with
  | true =>
    have hxe : (k0, t0, r0, w0, m0, true) = x := HX.out
    subst hxe
    go_wp2
    refine bodyPost_ret (results_ct rfl _ _ w.heap.size 25 #[.int .u8 k0, .string t0, .bool r0, .bool w0, .int .u64 m0] (0, 0) _ rfl (set5r ((off5r _ _ _ _ _ _ _ _ n1).trans HG6.out) _ _ _ _ _) Tryd.underlying25 rfl (by kernel_rfl)) rfl ?_
    exact ⟨rfl, below5 (below5 (below_then HB5.out HB5.out.size (by rw [hp]; exact HB6.out)) (Nat.le_of_lt HP.out) _ _ _ _ _) (Nat.le_refl _) _ _ _ _ _⟩
  | false =>
    have hxe : zeroR = x := HX.out
    subst hxe
    go_wp2
    refine bodyPost_ret (results_ct rfl _ _ w.heap.size 25 #[.int .u8 0, .string ⟨#[]⟩, .bool false, .bool false, .int .u64 0] (0, 0) _ rfl (set5r ((off5r _ _ _ _ _ _ _ _ n1).trans HG6.out) _ _ _ _ _) Tryd.underlying25 rfl (by kernel_rfl)) rfl ?_
    exact ⟨rfl, below5 (below5 (below_then HB5.out HB5.out.size (by rw [hp]; exact HB6.out)) (Nat.le_of_lt HP.out) _ _ _ _ _) (Nat.le_refl _) _ _ _ _ _⟩

def rule_Parse.f (a0 : ByteArray) : Option RT := if a0.size ≤ 1000 then some (ruleB a0) else none
theorem rule_Parse.calls (a0 : ByteArray) (r1 : Int) (r2 : ByteArray) (r3 r4 : Bool) (r5 : Int) (r6 : Bool) (w : World) (hLd : Ld w) (h : rule_Parse.f a0 = some (r1, r2, r3, r4, r5, r6)) :
    Calls Tryd.prog 15 #[.string a0] w fun e w' => e = .returned (.tuple #[.agg #[.int .u8 r1, .string r2, .bool r3, .bool r4, .int .u64 r5], .bool r6]) ∧ Below w.heap.size w w' := by
  unfold rule_Parse.f at h
  split at h
  · rename_i hs
    have h := Option.some.inj h
    unfold ruleB at h
    have hM := wordsM_at a0.data.toList
    cases hl : words11.lookup a0.data.toList with
    | some r =>
      rw [hl] at h hM
      have hr6 : ∀ p ∈ words11, p.2.2.2.2.2.2 = true := by
        intro p hp
        simp only [words11, List.mem_cons, List.not_mem_nil, or_false] at hp
        rcases hp with rfl | rfl | rfl | rfl | rfl | rfl | rfl | rfl | rfl | rfl | rfl <;> rfl
      obtain ⟨l1, l2, e, _⟩ := List.lookup_eq_some_iff.1 hl
      have h6 := hr6 (a0.data.toList, r) (by rw [e]; simp)
      have h' : r = (r1, r2, r3, r4, r5, r6) := h
      subst h'
      have h6' : r6 = true := h6
      subst h6'
      exact parse_some a0 hs w r1 r2 r3 r4 r5 hM
    | none =>
      rw [hl] at h hM
      by_cases h0 : a0.toList = []
      · have he : a0 = ⟨#[]⟩ := str_ext (by rw [h0]; rw [toList_data])
        subst he
        have h' : zeroR = (r1, r2, r3, r4, r5, r6) := h
        unfold zeroR at h'
        simp only [Prod.mk.injEq] at h'
        obtain ⟨rfl, rfl, rfl, rfl, rfl, rfl⟩ := h'
        exact parse_empty w
      · obtain ⟨k, hk⟩ := (rread_ev a0 hs (by
          rcases Nat.eq_zero_or_pos a0.size with hz | hz
          · exfalso
            apply h0
            rw [toList_data]
            apply List.eq_nil_of_length_eq_zero
            rw [size_data]
            exact hz
          · exact hz)).rounds
        obtain ⟨⟨y1, y2, y3, y4, y5, y6⟩, hy⟩ : ∃ y : RT, readL a0.data.toList = y := ⟨_, rfl⟩
        rw [hy] at hk
        have h' : finR (readL a0.data.toList) = (r1, r2, r3, r4, r5, r6) := h
        rw [hy] at h'
        exact parse_none a0 hs h0 w hLd hM k y1 y2 y3 y4 y5 y6 hk _ h'
  · cases h
end Go.Proofs.YtencimfeipglaaaDoor.X
