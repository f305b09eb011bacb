/- Walks: Crash. -/
import Derived.Test.YtdjbapbfbgcfjaaDiskW2
import Derived.WalkSpells
import Derived.LoopTactic
set_option linter.unusedVariables false
set_option linter.unusedSimpArgs false
namespace Go.Proofs.Ytdjbapbfbgcfjaa
open Go.RowKit Go.Maps Go.ChangeMaps Go.MapKept Mv Go.Proofs.YtdjbapbfbgcfjaaW.PrintWords

/-- What a crash leaves of a file. -/
def cutB (keep : Int) (b : List Int) : List Int := b.take (keep.toNat % (b.length + 1))
def crash1 (keep : Int) (f : List Int × Bool) : List Int × Bool := if f.2 = true then f else (cutB keep f.1, true)
/-- .. of all files but those that are still to come. -/
def crashL (keep : Int) (left : Lit → Bool) (F : Lit → Option (List Int × Bool)) : Lit → Option (List Int × Bool) := fun kl => (F kl).map fun f => if left kl = true then f else crash1 keep f
def crashF (keep : Int) (F : Lit → Option (List Int × Bool)) : Lit → Option (List Int × Bool) := fun kl => (F kl).map (crash1 keep)

def RelC (g m n r : Nat) (S : Nat → Prop) (keep : Int) (F : Lit → Option (List Int × Bool)) (w wr : World) : Prop :=
  ∃ left cnt M, RangeV Try.prog 9 wr m r n M left cnt ∧ FilesAt wr (more S w wr) M (crashL keep left F) ∧ Kp S w wr ∧ wr.heap[g]? = some (.cells #[.map (some m)] 57 (0, 0))

structure FV where
  A : Option Addr
  k : Nat
  c : Nat
  f : Bool
def mkF (x : FV) : Value := .agg #[.slice x.A x.k x.c, .bool x.f]

theorem files_shape {w : World} {S : Nat → Prop} {M : Lit → Option Value} {F : Lit → Option (List Int × Bool)} (h : FilesAt w S M F) {kl : Lit} {v : Value} (hM : M kl = some v) : ∃ x, v = mkF x := by
  cases hF : F kl with
  | none => rw [(h kl).1 hF] at hM; cases hM
  | some f =>
    obtain ⟨v', hv', A, c, rfl, _⟩ := (h kl).2 f hF
    rw [hM] at hv'
    cases hv'
    exact ⟨⟨A, _, c, _⟩, rfl⟩

theorem files_inv {w : World} {S : Nat → Prop} {M : Lit → Option Value} {F : Lit → Option (List Int × Bool)} (h : FilesAt w S M F) {kl : Lit} {A : Option Addr} {k c : Nat} {f : Bool} (hM : M kl = some (mkF ⟨A, k, c, f⟩)) :
    ∃ b, F kl = some (b, f) ∧ b.length = k ∧ k ≤ c ∧ (A = none → c = 0) ∧ k ≤ 65536 ∧ U8.C w A k b ∧ ∀ ad, A = some ad → S ad.block := by
  cases hF : F kl with
  | none => rw [(h kl).1 hF] at hM; cases hM
  | some f' =>
    obtain ⟨v', hv', A', c', rfl, q1, q2, q3, q4, q5⟩ := (h kl).2 f' hF
    rw [hM] at hv'
    cases hv'
    exact ⟨f'.1, rfl, rfl, q1, q2, q3, q4, q5⟩

theorem crashL_start {keep : Int} {left : Lit → Bool} {F : Lit → Option (List Int × Bool)} (h : ∀ kl, (F kl).isSome = true → left kl = true) : crashL keep left F = F := by
  funext kl
  unfold crashL
  cases hF : F kl with
  | none => rfl
  | some f => simp [h kl (by rw [hF]; rfl)]
theorem crashL_end {keep : Int} {left : Lit → Bool} {F : Lit → Option (List Int × Bool)} (h : ∀ kl, left kl = false) : crashL keep left F = crashF keep F := by
  funext kl
  unfold crashL crashF
  simp [h]
theorem sameKey_iff {a b : Lit} (hb : WideAt.IsKeyLit b) : a.sameKey b = true ↔ a = b := ⟨WideAt.sameKey_eq, fun e => by rw [e]; exact WideAt.sameKey_self hb⟩
theorem crashL_step {keep : Int} {left : Lit → Bool} {F : Lit → Option (List Int × Bool)} {kl : Lit} (hk : WideAt.IsKeyLit kl) (hl : left kl = true) {f : List Int × Bool} (hf : crashL keep left F kl = some f) :
    crashL keep (fun z => left z && !z.sameKey kl) F = updF (crashL keep left F) kl (some (crash1 keep f)) := by
  funext x
  unfold updF
  split
  · rename_i hx
    subst hx
    unfold crashL at hf ⊢
    cases hF : F x with
    | none => rw [hF] at hf; cases hf
    | some g =>
      rw [hF] at hf
      simp [hl] at hf
      simp [WideAt.sameKey_self hk, hf]
  · rename_i hx
    have : x.sameKey kl = false := by
      cases h : x.sameKey kl
      · rfl
      · exact absurd (WideAt.sameKey_eq h) hx
    unfold crashL
    simp [this]
theorem keep_mod (keep : Int) (n : Nat) : ((if keep < 0 then 0 else keep) % ((n : Int) + 1)).toNat = keep.toNat % (n + 1) := by
  split
  · rename_i h
    rw [show keep.toNat = 0 from by omega]
    simp
  · rename_i h
    obtain ⟨k, rfl⟩ := Int.eq_ofNat_of_zero_le (show 0 ≤ keep by omega)
    rw [show ((n : Int) + 1) = ((n + 1 : Nat) : Int) from by omega, ← Int.natCast_emod, Int.toNat_natCast, Int.toNat_natCast]

set_option maxHeartbeats 1000000 in
theorem crash_any (g n : Nat) (S : Nat → Prop) (F : Lit → Option (List Int × Bool)) (keep : Int) (w : World) (H : DiskAt w g S n F) (hn : n < maxLen) (hk0 : -9223372036854775808 ≤ keep) (hk1 : keep ≤ 9223372036854775807) :
    Calls Try.prog 17 #[.pointer (some ⟨g, 0, none⟩), .int .i64 keep] w fun e w' => e = .returned (.tuple #[]) ∧ DiskAt w' g (more S w w') n (crashF keep F) ∧ Kp S w w' := by
  obtain ⟨m, M, h1, h2, h3, h4, h5, h6⟩ := H
  have hgm : g ≠ m := fun e => h2.nocell (a := ⟨g, 0, none⟩) (v := .map (some m)) (by simp [World.cell?, h1]) e.symm
  have c0 : w.cell? ⟨g, 0, none⟩ = some (.map (some m)) := by simp [World.cell?, h1]
  have H1 := hide h1
  have H2 := hide h2
  have H3 := hide h3
  clear h1 h2 h3
  go_enter Try.func17, Try.ntmps17
  go_wp2_with (first
    | (at_range; refine op_range _ rfl _ 55 rfl 9 59 law9 Try.underlying55 m n M rfl H2.out ?_; intro w0 left cnt hrg hall hcn hg0 hs0))
  go_frame
  go_loopw [4] (fun _ wr => RelC g m n w.heap.size S keep F w wr) (fun _ wr => wr.rangeLeft m w.heap.size)
  case atStart =>
    have hk0 : Kp S w w0 := Kp.of_grown hg0 fun k e => by cases e
    refine ⟨left, cnt, M, hrg, ?_, hk0, (hg0.block g h6 (by simp)).trans H1.out⟩
    rw [crashL_start fun kl hs => hall kl ?_]
    · exact H3.out.keep (fun a v _ hc => hg0.cell hc (by simp)) more_kp
    · cases hF : F kl with
      | none => rw [hF] at hs; cases hs
      | some f =>
        obtain ⟨v, hv, _⟩ := (H3.out kl).2 f hF
        rw [hv]; rfl
  case round =>
    obtain ⟨left, cnt, M, hrg, hF, hK, hg⟩ := hrel
    have HF := hide hF
    have HK := hide hK
    have c0 : wr.cell? ⟨g, 0, none⟩ = some (.map (some m)) := by simp [World.cell?, hg]
    have HG := hide hg
    have HRG := hide hrg
    clear hF hK hg hrg
    go_wp2_with (first
      | (at_next; refine op_next _ rfl _ rfl 9 law9 Value.string mkF m w.heap.size n M left cnt ?_ ?_ rfl HRG.out ?_ ?_))
    · intro key kl hk
      obtain ⟨x, rfl, _⟩ := keyOf_string_inv Try.underlying9 hk
      exact ⟨x, rfl⟩
    · exact fun v kl hM => files_shape HF.out hM
    · intro hc0 hl0
      go_wp2
      go_end0
      have hF := HF.out
      rw [crashL_end hl0] at hF
      exact ⟨rfl, ⟨m, M, HG.out, HRG.out.map, hF, .inl h4, .inl h5, by have := HK.out.size; omega⟩, HK.out⟩
    · intro x v kl w1 cnt1 hkey hlk hMk hrg1 hlt hg1 hs1 hen
      have d0 : w1.cell? ⟨g, 0, none⟩ = some (.map (some m)) := hg1.cell c0 (by simp; omega)
      obtain ⟨A, k, c, f⟩ := v
      have hMk' := hide hMk
      have hrg1' := hide hrg1
      have hg1' := hide hg1
      have hlk' := hide hlk
      simp only [mkF] at hen ⊢
      have hs1' := hide hs1
      have hlt' := hide hlt
      clear hMk hrg1 hg1 hlk hall hcn hg0 hrg hs1 hlt
      cases f with
      | true =>
        go_wp2
        go_roundw
        case rel =>
          obtain ⟨b, hb, rfl, q1, q2, q3, q4, q5⟩ := files_inv HF.out hMk'.out
          have hk1 : Kp S w (w1.alloc (.cells #[.slice A b.length c, .bool true] 59)) := (HK.out.trans' (T := fun k => k = w.heap.size) (Kp.of_grown hg1'.out fun k e => by cases e; exact .inl rfl) fun i e => .inr (by omega)).alloc _
          refine ⟨_, cnt1, M, hrg1'.out.same (Below.heap_alloc w1 _ m hrg1'.out.map.lt) (Below.heap_alloc w1 _ _ hrg1'.out.lt), ?_, hk1, ?_⟩
          · rw [crashL_step (law9.key hkey) hlk'.out hb, show crash1 keep (b, true) = (b, true) from rfl, updF_self hb]
            refine HF.out.keep (fun a v _ hc => ?_) fun k hk => ?_
            · exact (World.cell?_alloc_lt _ _ _ (World.block_lt_of_cell? w1 _ (hg1'.out.cell hc (by have := HRG.out.nocell hc; simpa using this)))).trans (hg1'.out.cell hc (by have := HRG.out.nocell hc; simpa using this))
            · rcases hk with hk | hk
              · exact .inl hk
              · exact .inr ⟨hk.1, by have := hs1'.out; simp; omega⟩
          · rw [Below.heap_alloc w1 _ g (by have := hs1'.out; have := HK.out.size; omega), hg1'.out.block g (by have := HK.out.size; omega) (by simp; omega)]
            exact HG.out
        case measure =>
          have e1 := (hrg1'.out.same (w1 := w1.alloc (.cells #[.slice A k c, .bool true] 59)) (Below.heap_alloc w1 _ m hrg1'.out.map.lt) (Below.heap_alloc w1 _ _ hrg1'.out.lt)).left_eq
          have e2 := HRG.out.left_eq
          have := hlt'.out
          rw [e2]
          first | (rw [e1]; exact this) | (simp only [] at e1 ⊢; omega)
      | false =>
        obtain ⟨b, hb, rfl, q1, q2, q3, q4, q5⟩ := files_inv HF.out hMk'.out
        have hb' := hide hb
        have q4' := hide q4
        clear hb q4
        have e0 : (w1.alloc (.cells #[.slice A b.length c, .bool false] 59)).cell? ⟨g, 0, none⟩ = some (.map (some m)) := (World.cell?_alloc_lt _ _ _ (World.block_lt_of_cell? w1 _ d0)).trans d0
        have p0 : 0 ≤ (if keep < 0 then 0 else keep) % ((b.length : Int) + 1) := Int.emod_nonneg _ (by omega)
        have p1 : (if keep < 0 then 0 else keep) % ((b.length : Int) + 1) ≤ (c : Int) := by have := Int.emod_lt_of_pos (if keep < 0 then 0 else keep) (show (0 : Int) < (b.length : Int) + 1 by omega); omega
        have HR2 : RangeV Try.prog 9 (w1.alloc (.cells #[.slice A b.length c, .bool false] 59)).drew m w.heap.size n M (fun z => left z && !z.sameKey kl) cnt1 := hrg1'.out.same (Below.heap_alloc w1 _ m hrg1'.out.map.lt) (Below.heap_alloc w1 _ _ hrg1'.out.lt)
        obtain ⟨w2, hrun, hM2, ht2⟩ := HR2.store law9 Try.underlying55 hn (.agg #[.slice A (((if keep < 0 then 0 else keep) % ((b.length : Int) + 1)).toNat) c, .bool true]) hkey (by rw [hMk'.out]; rfl)
        have hM2' := hide hM2
        have ht2' := hide ht2
        clear HR2 hM2 ht2
        go_wp2
        go_region
        all_goals go_wp2
        refine ⟨⟨_, cnt1, _, hM2'.out, ?_, ?_, ?_⟩, ?_⟩
        · have hb := hb'.out
          rw [crashL_step (law9.key hkey) hlk'.out hb]
          have hcell : ∀ a v, wr.cell? a = some v → w2.cell? a = some v := fun a v hc => by
            have hc1 := hg1'.out.cell hc (by have := HRG.out.nocell hc; simpa using this)
            rw [turned_cell ht2'.out]
            exact (World.cell?_alloc_lt _ _ _ (World.block_lt_of_cell? w1 _ hc1)).trans hc1
          have hsz : wr.heap.size ≤ w2.heap.size := by have := hs1'.out; have := turned_size ht2'.out; simp at this; omega
          have hmore : ∀ k, more S w wr k → more S w w2 k := fun k hk => by
            rcases hk with hk | hk
            · exact .inl hk
            · exact .inr ⟨hk.1, by omega⟩
          refine FilesAt.upd (HF.out.keep (fun a v _ hc => hcell a v hc) hmore) _ ?_
          have hlen : (cutB keep b).length = keep.toNat % (b.length + 1) := by
            unfold cutB
            rw [List.length_take]
            have := Nat.mod_lt keep.toNat (show 0 < b.length + 1 by omega)
            omega
          refine ⟨A, c, ?_, ?_, q2, ?_, ?_, fun ad e => hmore _ (q5 ad e)⟩
          · show Value.agg #[.slice A _ c, .bool true] = Value.agg #[.slice A (cutB keep b).length c, .bool true]
            rw [hlen, keep_mod]
          · show (cutB keep b).length ≤ c
            rw [hlen]
            have := Nat.mod_lt keep.toNat (show 0 < b.length + 1 by omega)
            omega
          · show (cutB keep b).length ≤ 65536
            unfold cutB
            rw [List.length_take]
            omega
          · show U8.C w2 A (cutB keep b).length (cutB keep b)
            have h1 : U8.C w2 A b.length b := C_cells q4'.out fun ad e a v _ hc => hcell a v hc
            exact Kd.C_take h1 (by have := Nat.mod_lt keep.toNat (show 0 < b.length + 1 by omega); omega)
        · exact ((HK.out.trans' (T := fun k => k = w.heap.size) (Kp.of_grown hg1'.out fun k e => by cases e; exact .inl rfl) fun i e => .inr (by omega)).alloc _).drew.turned ht2'.out (.inl h5)
        · rw [turned_block ht2'.out hgm]
          show (w1.alloc _).heap[g]? = _
          rw [Below.heap_alloc w1 _ g (by have := hs1'.out; have := HK.out.size; omega), hg1'.out.block g (by have := HK.out.size; omega) (by simp; omega)]
          exact HG.out
        · rw [hM2'.out.left_eq, HRG.out.left_eq]
          exact hlt'.out
end Go.Proofs.Ytdjbapbfbgcfjaa
