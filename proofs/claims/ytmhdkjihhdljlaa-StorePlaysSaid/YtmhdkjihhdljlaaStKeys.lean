/- Walk: Keys. -/
import Derived.Test.YtmhdkjihhdljlaaStPure
import Derived.Test.YtmhdkjihhdljlaaSh
import Derived.Sort.Walk0
import Derived.Sort.KeysCollected
set_option linter.unusedVariables false
set_option linter.unusedSimpArgs false
namespace Go.Proofs.Ytmhdkjihhdljlaa.X
open Go.RowKit Go.Lib Go.Proofs.YtmhdkjihhdljlaaW.PrintWords Go.Proofs.YtmhdkjihhdljlaaW.PrintLast Go.Proofs.YtmhdkjihhdljlaaW.PrintMore
attribute [local go_sem] max2_int min2_int max_two min_two max_three min_three max_four min_four

def sortB (xs : List ByteArray) : List ByteArray := ((xs.map (fun s => s.data.toList)).mergeSort (fun x y => decide (x ≤ y))).map (fun l => (⟨l.toArray⟩ : ByteArray))
theorem sortB_len (xs : List ByteArray) : (sortB xs).length = xs.length := by unfold sortB; simp

theorem mapBlock_other (w : World) (g : Nat) (f : Array Value → Array Value) (k : Nat) (h : k ≠ g) : (Go.Sort.mapBlock w g f).heap[k]? = w.heap[k]? := by
  unfold Go.Sort.mapBlock
  simp only [Array.getElem?_modify]
  rw [if_neg (fun e => h e.symm)]

theorem sort_calls {w0 : World} {base : Nat} {ok : Nat → Prop} (A : Option Addr) (c : Nat) (xs : List ByteArray) (W : World) (HR : Kd.R Kd.string 9 W base ok (.slice A xs.length c) xs) (HB : Below base w0 W) (hl : xs.length ≤ 1000000) :
    Calls Try.prog 44 #[.slice A xs.length c] W fun e w' => e = .returned (.tuple #[]) ∧ Below base w0 w' ∧ Kd.C Kd.string w' A xs.length (sortB xs) := by
  have hn : (sortB xs).length = xs.length := sortB_len xs
  obtain ⟨_, inner, ⟨ho1, ho2⟩, _⟩ := id HR
  rcases ho2 with ⟨he, h0⟩ | ⟨g, cap, cur, he, hg, hh, _⟩
  · obtain rfl : A = none := by injection he
    rw [h0]
    refine (Try.slices_Sort_string_none none c W).mono ?_
    rintro e w' ⟨rfl, rfl⟩
    refine ⟨rfl, HB, ⟨by rw [hn, h0], by simp, fun h => absurd h (by simp)⟩⟩
  · injection he with he1 he2 he3
    subst he1
    have hgs : g < W.heap.size := by
      rcases Nat.lt_or_ge g W.heap.size with h | h
      · exact h
      · rw [Array.getElem?_eq_none h] at hh; cases hh
    have hss : (xs.map (fun s => s.data.toList)).length = xs.length := by simp
    have hH : Go.Sort.Holds encStr W g 0 (xs.map (fun s => s.data.toList)).toArray := by
      intro j hj
      have hj' : j < xs.length := by simpa using hj
      have hc := Kd.R_cell (d := ByteArray.empty) HR (j : Int) (by omega) (by omega)
      rw [Int.toNat_natCast] at hc
      rw [Nat.zero_add]
      refine ⟨hc.1.trans ?_, hc.2⟩
      congr 1
      have : rdOf ByteArray.empty xs (j : Int) = xs[j] := by unfold rdOf; rw [Int.toNat_natCast, List.getD_eq_getElem?_getD, List.getElem?_eq_getElem hj']; rfl
      rw [this, getElem!_pos _ j hj]
      simp [encStr]
    have hS := Try.slices_Sort_string g 0 c (xs.map (fun s => s.data.toList)) W hH hgs (by rw [hss]; omega)
    rw [hss] at hS
    refine hS.mono ?_
    rintro e w' ⟨rfl, n, os, rfl⟩
    have hds : ((xs.map (fun s => s.data.toList)).mergeSort fun x y => decide (x ≤ y)).toArray.size = (xs.map (fun s => s.data.toList)).toArray.size := by simp
    refine ⟨rfl, ⟨HB.os, HB.tape, HB.output, ?_, ?_⟩, ⟨hn, ?_, ?_⟩⟩
    · rw [Go.Sort.size_grow, Go.Sort.size_putRow]
      exact Nat.le_trans HB.size (Nat.le_add_right _ _)
    · intro k hk
      rw [Go.Sort.heap_grow_old _ _ (by rw [Go.Sort.size_putRow]; show k < W.heap.size; omega)]
      exact (mapBlock_other _ _ _ _ (by omega)).trans (HB.block k hk)
    · exact Nat.le_trans hl (by decide)
    · intro hpos
      refine ⟨⟨g, 0, none⟩, rfl, ?_⟩
      intro j p hp
      refine ⟨[.string p], rfl, rfl, ?_⟩
      intro i u hu
      have hi0 : i = 0 := by
        have := (List.getElem?_eq_some_iff.1 hu).1
        simpa using this
      subst hi0
      obtain rfl : Value.string p = u := by simpa using hu
      have hjl : j < (sortB xs).length := (List.getElem?_eq_some_iff.1 hp).1
      have hj2 : j < ((xs.map (fun s => s.data.toList)).mergeSort fun x y => decide (x ≤ y)).toArray.size := by rw [hds]; simp; omega
      have hG := (Go.Sort.holds_grow encStr _ os g 0 _ (by rw [Go.Sort.size_putRow]; exact hgs) (Go.Sort.holds_putRow encStr (Go.Sort.ahead W n) g 0 _ _ (show Go.Sort.Holds encStr (Go.Sort.ahead W n) g 0 _ from hH) hds)) j hj2
      have h1 := hG.1
      rw [Nat.zero_add] at h1
      have hadd : (⟨g, 0, none⟩ : Addr).add (j * Kd.string.sz + 0) = ⟨g, j, none⟩ := by
        show (⟨g, 0, none⟩ : Addr).add (j * 1 + 0) = ⟨g, j, none⟩
        unfold Addr.add
        by_cases hz : j = 0 <;> simp [hz]
      rw [hadd, h1]
      congr 1
      unfold sortB at hp
      rw [List.getElem?_map] at hp
      obtain ⟨l, hl1, hl2⟩ := Option.map_eq_some_iff.1 hp
      rw [getElem!_pos _ j hj2]
      obtain ⟨hjx, hlx⟩ := List.getElem?_eq_some_iff.1 hl1
      rw [← hl2, ← hlx]
      simp [encStr]

theorem sortB_eq {xs l : List ByteArray} (hp : xs.Perm l) (hl : l.Pairwise fun a b => a.data.toList < b.data.toList) : sortB xs = l := by
  unfold sortB
  have h1 : (xs.map (fun s => s.data.toList)).mergeSort (fun x y => decide (x ≤ y)) = l.map (fun s => s.data.toList) := by
    have e1 := mergeSort_of_perm (hp.map (fun s : ByteArray => s.data.toList))
    have e2 : (l.map (fun s : ByteArray => s.data.toList)).mergeSort leB = l.map (fun s => s.data.toList) := by
      refine List.mergeSort_of_pairwise (List.pairwise_map.2 (hl.imp fun h => ?_))
      simp only [leB, decide_eq_true_eq]
      exact List.le_of_lt h
    exact e1.trans e2
  rw [h1, List.map_map]
  conv => rhs; rw [← List.map_id l]
  refine List.map_congr_left fun a _ => ?_
  simp
end Go.Proofs.Ytmhdkjihhdljlaa.X
namespace Go.Proofs.Ytmhdkjihhdljlaa.X
open Go.RowKit Go.Maps Go.ChangeMaps Go.MapKept Go.Proofs.Ytmhdkjihhdljlaa.Mv Go.Proofs.YtmhdkjihhdljlaaW.PrintWords
theorem RangeV.noobj {P : Program} {k : TypeId} {w : World} {m r n : Nat} {M : Lit → Option Value} {left : Lit → Bool} {cnt : Nat} (h : RangeV P k w m r n M left cnt) (cs : Array Value) (t : TypeId) (fz : Nat × Nat) : w.heap[r]? ≠ some (.cells cs t fz) := by
  obtain ⟨D, ⟨es, clock, since, seen, c0, h1, h2, h3, h4, h5, rest⟩, hM⟩ := h
  rw [h5]
  intro e
  cases e
theorem row_ne {α : Type} {d : Kd α} {e b i : Nat} {w : World} {ok : Nat → Prop} {v : Value} {xs : List α} (h : d.R e w b ok v xs) (hi : ∀ cs t fz, w.heap[i]? ≠ some (.cells cs t fz)) : some i ≠ v.ownBlock := by
  intro he
  obtain ⟨inner, ho⟩ := Kd.R_own h
  obtain ⟨cells, hc⟩ := own_typed ho i he.symm
  exact hi _ _ _ hc
/-- A row stays when a round takes a step. -/
theorem R_next {α : Type} {d : Kd α} {e : Nat} {P : Program} {k : TypeId} {w w1 : World} {m r n b : Nat} {M : Lit → Option Value} {left : Lit → Bool} {cnt : Nat} {ok : Nat → Prop} {v : Value} {xs : List α} (h : d.R e w b ok v xs) (hr : RangeV P k w m r n M left cnt) (hg : w.grownBy w1 (some r)) : d.R e w1 b ok v xs :=
  Kd.R_mono (Kd.R_move (Kd.R_bound h) (fun i hi => by
    obtain ⟨_, _, hlt, q, _, cells, hc⟩ := hi
    exact hg.block i hlt (fun he => by
      injection he with he
      subst he
      exact RangeV.noobj hr _ _ _ hc))) (fun _ h => h.1)
theorem infoS : (Try.prog.info? 9).map (fun i => (i.zero, i.size, i.bytes)) = some (some (.string ⟨#[]⟩), 1, 16) := by kernel_rfl
theorem sort_calls_q {w0 : World} {base : Nat} {ok : Nat → Prop} (A : Option Addr) (c : Nat) (xs : List ByteArray) (W : World) (q : Nat) (hq : xs.length = q) (HR : Kd.R Kd.string 9 W base ok (.slice A q c) xs) (HB : Below base w0 W) (hl : xs.length ≤ 1000000) :
    Calls Try.prog 44 #[.slice A q c] W fun e w' => e = .returned (.tuple #[]) ∧ Below base w0 w' ∧ Kd.C Kd.string w' A q (sortB xs) := by
  subst hq
  exact sort_calls A c xs W HR HB hl
def keysA (A : List (Nat × Ent)) : List ByteArray := (A.filter fun p => !p.2.past).map (·.2.key)
structure CollK (A ps : List (Nat × Ent)) (left : Lit → Bool) : Prop where
  nd : ps.Nodup
  mem : ∀ p, p ∈ ps ↔ p ∈ A ∧ p.2.past = false ∧ left (nm p.2.key) = false
theorem srt_nd {A : List (Nat × Ent)} (h : KSrt A) : A.Nodup := h.imp fun hl e => by rw [e] at hl; exact List.lt_irrefl _ hl
theorem collK_start {A : List (Nat × Ent)} {left : Lit → Bool} (h : ∀ p ∈ A, left (nm p.2.key) = true) : CollK A [] left :=
  ⟨List.nodup_nil, fun p => ⟨fun hp => (by cases hp), fun ⟨h1, _, h3⟩ => by rw [h p h1] at h3; cases h3⟩⟩
theorem collK_end {A ps : List (Nat × Ent)} {left : Lit → Bool} (hs : KSrt A) (h : CollK A ps left) (hl : ∀ kl, left kl = false) : ps.Perm (A.filter fun p => !p.2.past) := by
  refine (List.perm_ext_iff_of_nodup h.nd ((srt_nd hs).filter _)).2 fun p => ?_
  rw [h.mem, List.mem_filter, hl]
  simp
theorem collK_step {A ps : List (Nat × Ent)} {left : Lit → Bool} (hs : KSrt A) (h : CollK A ps left) {x : Nat × Ent} (hx : x ∈ A) (hlk : left (nm x.2.key) = true) :
    (x.2.past = false → CollK A (ps ++ [x]) (fun z => left z && !z.sameKey (nm x.2.key))) ∧ (x.2.past = true → CollK A ps (fun z => left z && !z.sameKey (nm x.2.key))) := by
  have hne : ∀ p ∈ A, p ≠ x → p.2.key ≠ x.2.key := fun p hp hpx e => hpx (key_uniq hs hp hx e)
  have hnx : x ∉ ps := fun hm => by have := ((h.mem x).1 hm).2.2; rw [hlk] at this; cases this
  refine ⟨fun hF => ⟨?_, fun p => ?_⟩, fun hF => ⟨h.nd, fun p => ?_⟩⟩
  · rw [List.nodup_append]
    refine ⟨h.nd, by simp, fun a ha b hb => ?_⟩
    rw [List.mem_singleton.1 hb]
    rintro rfl
    exact hnx ha
  · rw [List.mem_append, h.mem, List.mem_singleton]
    by_cases e : p = x
    · subst e
      simp [hx, hF, nm_same]
    · constructor
      · rintro (⟨h1, h2, h3⟩ | h1)
        · exact ⟨h1, h2, by simp [h3]⟩
        · exact absurd h1 e
      · rintro ⟨h1, h2, h3⟩
        rw [nm_same] at h3
        exact .inl ⟨h1, h2, by simpa [hne p h1 e] using h3⟩
  · rw [h.mem]
    by_cases e : p = x
    · subst e
      simp [hF]
    · constructor
      · rintro ⟨h1, h2, h3⟩
        exact ⟨h1, h2, by simp [h3]⟩
      · rintro ⟨h1, h2, h3⟩
        rw [nm_same] at h3
        exact ⟨h1, h2, by simpa [hne p h1 e] using h3⟩
theorem keysA_srt {A : List (Nat × Ent)} (h : KSrt A) : (keysA A).Pairwise fun a b => a.data.toList < b.data.toList := List.pairwise_map.2 (h.filter _)
def KeyRel (b g me mc n nc : Nat) (now : Int) (M : Lit → Option Value) (A : List (Nat × Ent)) (C : ByteArray → Int) (w wr : World) (v : Value) : Prop :=
  ∃ left cnt ps, RangeV Try.prog 9 wr me w.heap.size n M left cnt ∧ Kd.R Kd.string 9 wr w.heap.size (fun _ => True) v (ps.map (·.2.key)) ∧ CollK A ps left ∧ Below w.heap.size w wr ∧ ps.length + cnt ≤ n
set_option maxHeartbeats 1000000 in
set_option maxRecDepth 100000 in
theorem keys_any {w : World} {b g me mc n nc : Nat} {now : Int} {A : List (Nat × Ent)} {C : ByteArray → Int} (H : StoreAt w b g me mc n nc now A C) (hn : n ≤ 1000000) :
    Calls Try.prog 21 #[.pointer (some ⟨g, 0, none⟩)] w fun e w' => ∃ B k, e = .returned (.slice B (keysA A).length k) ∧ (keysA A).length ≤ k ∧ Aside0 (Kd.C Kd.string w' B (keysA A).length (keysA A)) ∧ Aside0 (Below w.heap.size w w') := by
  obtain ⟨M, hM, hR⟩ := H.ents
  have c1 : w.cell? ⟨g, 1, none⟩ = some (.map (some me)) := by simp [World.cell?, H.top]
  have HM := Aside0.mk hM
  have HRE := Aside0.mk hR
  have H0 := Aside0.mk H
  clear hM hR H
  go_enter Try.func21, Try.ntmps21
  go_wp2_with (first
    | (at_range; refine op_range _ rfl _ 59 rfl 9 71 law9 Try.underlying59 me n M rfl HM.out ?_; intro w0 left cnt hrg hall hcn hg0 hs0))
  go_frame
  go_loopw [3] (fun v3 wr => Aside0 (KeyRel b g me mc n nc now M A C w wr v3)) (fun _ wr => wr.rangeLeft me w.heap.size)
  case atStart =>
    exact ⟨left, cnt, [], hrg, Kd.R_nil _ _ _ _ _, collK_start (fun p hp => hall _ (by rw [HRE.out.2 p hp]; rfl)), ⟨hg0.os, hg0.tape, hg0.output, by omega, fun k hk => hg0.block k hk (by simp)⟩, by simpa using hcn⟩
  case round =>
    clear hrg hall hcn hg0 hs0 c1
    obtain ⟨left, cnt, ps, hrg, hR, hC, hB, hl⟩ := hrel.out
    have HRG := Aside0.mk hrg
    have HR := Aside0.mk hR
    have HC := Aside0.mk hC
    have HB := Aside0.mk hB
    clear hrg hR hC hB hrel
    go_wp2_with (first
      | (at_next; refine op_next (α := ByteArray) (β := Nat) _ rfl _ rfl 9 law9 (fun s => .string s) (fun q => .pointer (some ⟨q, 0, none⟩)) me w.heap.size n M left cnt ?_ ?_ rfl HRG.out ?_ ?_))
    · intro key kl hk
      obtain ⟨x, rfl, _⟩ := keyOf_string_inv Try.underlying9 hk
      exact ⟨x, rfl⟩
    · intro v kl hM
      obtain ⟨p, _, _, e⟩ := HRE.out.1 kl v hM
      exact ⟨p.1, e⟩
    · intro hc0 hl0
      have HP := Aside0.mk (collK_end H0.out.srt HC.out hl0)
      obtain ⟨B, k, e5⟩ := Kd.R_slice HR.out
      have hlen : (ps.map (·.2.key)).length = (keysA A).length := by rw [List.length_map, HP.out.length_eq]; simp [keysA]
      rw [hlen] at e5
      subst e5
      have HLN := Aside0.mk hlen
      have hk := (Kd.R_reads' HR.out).2.1
      have hps : ps.length ≤ 1000000 := by omega
      clear hlen hc0 hl0
      obtain ⟨q, hq⟩ : ∃ q, (keysA A).length = q := ⟨_, rfl⟩
      rw [hq] at HLN HR hk ⊢
      have HQ0 := Aside0.mk hq
      clear hq
      go_wp2_with fail
      refine (sort_calls_q B k (ps.map (·.2.key)) wr q HLN.out HR.out HB.out (by simpa using hps)).mono ?_
      rintro e w2 ⟨rfl, hb2, hC2⟩
      rw [sortB_eq (HP.out.map _) (keysA_srt H0.out.srt)] at hC2
      go_wp2
      go_ret
      have hq := HQ0.out
      subst hq
      exact ⟨B, k, rfl, hk, ⟨hC2⟩, ⟨hb2⟩⟩
    · intro x v kl w2 cnt1 hkey hlk hMk hrg1 hlt1 hg1 hs1 hen
      obtain ⟨p, hp, e1, e2⟩ := HRE.out.1 _ _ hMk
      have hv : v = p.1 := by injection e2 with e2; injection e2 with e2; injection e2
      subst hv
      have hx : x = p.2.key := by
        obtain ⟨y, ey, ek, _⟩ := keyOf_string_inv Try.underlying9 hkey
        injection ey with ey
        rw [ey]
        exact nm_inj (ek.symm.trans e1)
      subst hx
      subst e1
      have HR1 := Aside0.mk (R_next HR.out HRG.out hg1)
      have HRG1 := Aside0.mk hrg1
      have HB1 := Aside0.mk (pw_below_grown HB.out (some w.heap.size) HB.out.size hg1 (fun k e => by cases e; exact Nat.le_refl _))
      have HST := Aside0.mk (collK_step H0.out.srt HC.out hp hlk)
      have HLT := Aside0.mk hlt1
      obtain ⟨v2, v3, v4, hrows, d0, d1, d2, d3, d4, d5, d6⟩ := (H0.out.below HB1.out).cells hp
      obtain ⟨B, k, e5⟩ := Kd.R_slice HR1.out
      obtain ⟨xs, hxs⟩ : ∃ xs : List ByteArray, ps.map (·.2.key) = xs := ⟨_, rfl⟩
      have HXN := Aside0.mk (show (xs.length + 1) * 16 ≤ 140737488355328 by rw [← hxs, List.length_map]; omega)
      rw [hxs] at e5 HR1
      obtain ⟨q, hq⟩ : ∃ q, xs.length = q := ⟨_, rfl⟩
      rw [hq] at e5
      subst e5
      have HXS := Aside0.mk hxs
      have HQ := Aside0.mk hq
      obtain ⟨pe, pk, xv, pd, pp⟩ := p
      simp only at hen d6
      clear hkey hlk hMk hrg1 hlt1 hg1 hs1 hp hxs hq d0 d1 d2 d3 d4 d5 hrows
      cases pp with
      | false =>
        go_wp2_with (at_builtin; go_loud (refine Kd.R_append Kd.string (w0 := w) w.heap.size rfl (.tmp 21) (.tmp 23) 22 9 (.string ⟨#[]⟩) 16 rfl Try.underlying22 infoS rfl (by decide) (by decide) (.slice B q k) xs pk [.string pk] (fun _ => True) (fun _ => False) rfl rfl rfl (fun _ h => h.elim) (fun _ _ => trivial) HR1.out HB1.out HB1.out.size HXN.out ?_; intro v5 w4 ho hb4 hg4 hat; have HO4 := Aside0.mk ho; have HB4 := Aside0.mk hb4; have HG4 := Aside0.mk hg4; clear ho hb4 hg4 hat))
        have HRG4 := Aside0.mk (HRG1.out.same (HG4.out.block me HRG1.out.map.lt (row_ne HR1.out (MapV.noobj HRG1.out.map))) (HG4.out.block _ HRG1.out.lt (row_ne HR1.out (RangeV.noobj HRG1.out))))
        go_roundw
        case rel =>
          exact ⟨⟨_, cnt1, ps ++ [(pe, ⟨pk, xv, pd, false⟩)], HRG4.out, by rw [List.map_append, HXS.out]; exact HO4.out, HST.out.1 rfl, HB4.out, by have := HLT.out; simp; omega⟩⟩
        case measure =>
          rw [HRG4.out.left_eq, HRG.out.left_eq]; exact HLT.out
      | true =>
        go_wp2
        go_roundw
        case rel =>
          exact ⟨⟨_, cnt1, ps, HRG1.out, by rw [HXS.out]; exact HR1.out, HST.out.2 rfl, HB1.out, by have := HLT.out; omega⟩⟩
        case measure =>
          rw [HRG1.out.left_eq, HRG.out.left_eq]; exact HLT.out
end Go.Proofs.Ytmhdkjihhdljlaa.X
