/- A strings.Builder that a call has made: what its methods leave. -/
import Derived.Test.YtencimfeipglaaaDoorSh
import Derived.Test.YtencimfeipglaaaDoorRows
import Derived.Test.YtencimfeipglaaaDoorKp
import Derived.Lib.Builder
import Derived.Lib.AppendStr
import Derived.Maps.AppendAt
import Derived.Laws.Externs
import Derived.WalkKit
set_option linter.unusedVariables false
set_option linter.unusedSimpArgs false
namespace Go.Proofs.YtencimfeipglaaaDoor.X
open Go.RowKit Go.Proofs.YtencimfeipglaaaDoorW.PrintWords

theorem sizeBuilder : (Tryd.prog.info? 86).map (·.size) = some 2 := by kernel_rfl
theorem liesBuilder : liesAt Tryd.prog Tryd.prog.depth 86 (2 / Tryd.prog.cellsOf 86) 0 86 1 = true := by kernel_rfl
theorem infoU8 : (Tryd.prog.info? 5).map (fun i => (i.zero, i.size, i.bytes)) = some (some (.int .u8 0), 1, 1) := by kernel_rfl

/-- Block b is a builder: its first cell p, its bytes' row v, which holds bs. -/
def BAt (w : World) (B b : Nat) (p v : Value) (bs : List Value) : Prop :=
  B ≤ b ∧ w.heap[b]? = some (.cells #[p, v] 86 (0, 0)) ∧ w.ownsRow B 5 1 v bs.length bs ∧ v.ownBlock ≠ some b

def Own (b : Nat) (v : Value) : Nat → Prop := fun k => k = b ∨ some k = v.ownBlock

theorem BAt.is {w : World} {B b : Nat} {v : Value} {bs : List Value} (h : BAt w B b (.pointer none) v bs ∨ BAt w B b (.pointer (some ⟨b, 0, none⟩)) v bs) : Lib.IsBuilder 86 5 B b bs w := by
  rcases h with ⟨h1, h2, h3, h4⟩ | ⟨h1, h2, h3, h4⟩
  · exact .inl ⟨h1, v, h2, h3, h4⟩
  · exact .inr ⟨h1, v, h2, h3, h4⟩

set_option maxHeartbeats 1000000 in
set_option maxRecDepth 100000 in
theorem copyCheck_used (b : Nat) (w : World) (h0 : w.cell? ⟨b, 0, none⟩ = some (.pointer (some ⟨b, 0, none⟩))) :
    Calls Tryd.prog 78 #[.pointer (some ⟨b, 0, none⟩)] w fun e w' => e = .returned (.tuple #[]) ∧ w' = w := by
  obtain ⟨j, hj, _⟩ := Option.map_eq_some_iff.1 sizeBuilder
  go_enter Tryd.func78, Tryd.ntmps78
  go_wp2
  rw [Lib.run_neq_ptr_same w _ Tryd.underlying84 hj]
  go_wp2
  go_end0
  exact ⟨rfl, rfl⟩

set_option maxHeartbeats 1000000 in
set_option maxRecDepth 100000 in
theorem copyCheck_fresh (b : Nat) (w : World) (h0 : w.cell? ⟨b, 0, none⟩ = some (.pointer none)) (hsh : w.shape? b = some (86, 2)) (hfz : w.frozen? ⟨b, 0, none⟩ = false) :
    Calls Tryd.prog 78 #[.pointer (some ⟨b, 0, none⟩)] w fun e w' => e = .returned (.tuple #[]) ∧ w' = w.setCell ⟨b, 0, none⟩ (.pointer (some ⟨b, 0, none⟩)) := by
  obtain ⟨j, hj, hjs⟩ := Option.map_eq_some_iff.1 sizeBuilder
  go_enter Tryd.func78, Tryd.ntmps78
  go_wp2
  rw [Lib.run_to_unsafe w ⟨b, 0, none⟩ Tryd.underlying84 Tryd.underlying120 hj (by rw [hjs]; decide) hsh (Nat.zero_lt_succ 1)]
  simp only [Result.andThen]
  rw [Oper.upon_value]
  go_wp2
  rw [run_callFunc_extern Tryd.func97 (by kernel_rfl) (by kernel_rfl) (by kernel_rfl) (e := Extern.AbiNoEscape.same) (by kernel_rfl)]
  rw [Lib.run_noEscape]
  simp only [Result.andThen]
  rw [Oper.upon_value]
  go_wp2
  rw [Lib.run_from_unsafe w ⟨b, 0, none⟩ Tryd.underlying120 Tryd.underlying84 hj hsh liesBuilder]
  simp only [Result.andThen]
  rw [Oper.upon_value]
  go_wp2
  go_end0
  exact ⟨rfl, rfl⟩

theorem copyCheck_any (B b : Nat) (v : Value) (bs : List Value) (w : World) (h : BAt w B b (.pointer none) v bs ∨ BAt w B b (.pointer (some ⟨b, 0, none⟩)) v bs) :
    Calls Tryd.prog 78 #[.pointer (some ⟨b, 0, none⟩)] w fun e w' => e = .returned (.tuple #[]) ∧ BAt w' B b (.pointer (some ⟨b, 0, none⟩)) v bs ∧ Kp (· = b) w w' ∧ w'.heap.size = w.heap.size := by
  rcases h with ⟨h1, h2, h3, h4⟩ | ⟨h1, h2, h3, h4⟩
  · refine (copyCheck_fresh b w ((pw_cells h2 0).1.trans rfl) (by simp [World.shape?, h2]) (pw_cells h2 0).2).mono ?_
    rintro e w' ⟨rfl, rfl⟩
    have hk : Kp (· = b) w (w.setCell ⟨b, 0, none⟩ (.pointer (some ⟨b, 0, none⟩))) := (Kp.refl (· = b) w).setCell (a := ⟨b, 0, none⟩) (.inl rfl) _
    exact ⟨rfl, ⟨h1, by simpa using blk_set h2 0 (.pointer (some ⟨b, 0, none⟩)), own_move h3 fun k e => Below.heap_setCell w _ _ k (fun e2 => h4 (by rw [e, e2])), h4⟩, hk, by simp⟩
  · refine (copyCheck_used b w ((pw_cells h2 0).1.trans rfl)).mono ?_
    rintro e w' ⟨rfl, rfl⟩
    exact ⟨rfl, ⟨h1, h2, h3, h4⟩, Kp.refl _ _, rfl⟩

set_option maxHeartbeats 2000000 in
set_option maxRecDepth 100000 in
theorem WriteByte_any (B b : Nat) (v : Value) (bs : List Value) (c : Int) (w : World) (h : BAt w B b (.pointer none) v bs ∨ BAt w B b (.pointer (some ⟨b, 0, none⟩)) v bs) (hlen : bs.length + 1 ≤ 140737488355328) (hBw : B ≤ w.heap.size) :
    Calls Tryd.prog 54 #[.pointer (some ⟨b, 0, none⟩), .int .u8 c] w fun e w' => ∃ v', e = .returned .nilIface ∧ BAt w' B b (.pointer (some ⟨b, 0, none⟩)) v' (bs ++ [.int .u8 c]) ∧ Kp (Own b v) w w' ∧ (v'.ownBlock = v.ownBlock ∨ ∃ k, v'.ownBlock = some k ∧ w.heap.size ≤ k) := by
  obtain ⟨i0, hi, hz0, hz1, hz2⟩ := info_parts infoU8
  go_enter Tryd.func54, Tryd.ntmps54
  go_wp2_with (go_at_call 78; refine (copyCheck_any B b v bs _ h).mono ?_)
  rintro e w1 ⟨rfl, ⟨hB, hbk, hown, hne⟩, hk1, hsz1⟩
  have c0 : w1.cell? ⟨b, 0, none⟩ = some (.pointer (some ⟨b, 0, none⟩)) := by rw [Lib.cell_of_heap hbk]; rfl
  have c1 : w1.cell? ⟨b, 1, none⟩ = some v := by rw [Lib.cell_of_heap hbk]; rfl
  have HK1 := Aside0.mk hk1
  have HZ1 := Aside0.mk hsz1
  clear hk1 hsz1
  go_wp2_with (at_builtin; refine wpList_append_own_at _ rfl _ _ 40 rfl B 5 i0 (.int .u8 0) 1 1 Tryd.underlying40 hi hz0 hz1 hz2 rfl (by decide) _ _ _ rfl (hown.alloc _) ⟨w1.heap.size, 0, none⟩ 1 1 [.int .u8 c] rfl rfl ?c1 ?c2 ?c3 ?c4 ?c5 ?_)
  case c1 =>
    intro j u hj
    match j, hj with
    | 0, hj => simp at hj; subst hj; simp [Addr.add]
  case c2 => intro u hu; simp at hu; subst hu; rfl
  case c3 => unfold maxLen; omega
  case c4 => omega
  case c5 => have := HK1.out.size; simp; omega
  intro v' w2 hown' hgrow _ hat
  have hlt : b < w1.heap.size := pw_lt hbk
  have hb2 : w2.heap[b]? = some (.cells #[.pointer (some ⟨b, 0, none⟩), v] 86 (0, 0)) := by
    rw [hgrow.block b (by simp; omega) (fun e => hne e.symm), Lib.alloc_old w1 _ b hlt]
    exact hbk
  have d0 : w2.cell? ⟨b, 0, none⟩ = some (.pointer (some ⟨b, 0, none⟩)) := by rw [Lib.cell_of_heap hb2]; rfl
  have d1 : w2.cell? ⟨b, 1, none⟩ = some v := by rw [Lib.cell_of_heap hb2]; rfl
  have f1 : w2.frozen? ⟨b, 1, none⟩ = false := Lib.frozen_of_heap hb2 1
  obtain ⟨g, cap, rfl⟩ : ∃ g cap, v' = .slice (some ⟨g, 0, none⟩) (bs.length + 1) cap := by
    rcases hown'.2 with ⟨_, h0⟩ | ⟨g, cap, cur, hv, _⟩
    · omega
    · exact ⟨g, cap, hv⟩
  have HO := Aside0.mk hown'
  have HG := Aside0.mk hgrow
  have HA := Aside0.mk hat
  have HB2 := Aside0.mk hb2
  have HN := Aside0.mk hne
  have HO1 := Aside0.mk hown
  clear hown' hgrow hat hb2 hne hown h
  go_wp2
  go_ret
  have hgb : g ≠ b := by
    rintro rfl
    rcases HA.out with e | e
    · exact HN.out (by rw [← e]; rfl)
    · simp [Value.ownBlock] at e
      omega
  refine ⟨.slice (some ⟨g, 0, none⟩) (bs.length + 1) cap, rfl, ⟨hB, ?_, ?_, ?_⟩, ?_, ?_⟩
  · simpa using blk_set HB2.out 1 (.slice (some ⟨g, 0, none⟩) (bs.length + 1) cap)
  · simp only [List.length_append, List.length_singleton]
    exact own_move HO.out fun k e => Below.heap_setCell w2 _ _ k (fun e2 => by simp [Value.ownBlock] at e; exact hgb (by rw [e]; exact e2))
  · simp [Value.ownBlock]
    exact hgb
  · refine (((HK1.out.mono (T := Own b v) fun i e => .inl e).alloc _).trans' (T := fun k => some k = v.ownBlock) (Kp.of_grown HG.out fun k e => .inl e.symm) fun i e => .inl (.inr e)).setCell (.inl (.inl rfl)) _
  · rcases HA.out with e | e
    · exact .inl e
    · refine .inr ⟨_, e, ?_⟩
      have := HZ1.out
      simp
      omega
end Go.Proofs.YtencimfeipglaaaDoor.X
