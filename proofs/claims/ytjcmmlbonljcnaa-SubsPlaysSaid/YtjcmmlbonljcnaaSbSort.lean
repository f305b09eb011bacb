/- slices.Sort, of texts and of numbers: what lies in order is given. -/
import Derived.Test.YtjcmmlbonljcnaaSbW
import Derived.Test.YtjcmmlbonljcnaaSh
import Derived.Sort.Walk0
import Derived.Sort.KeysCollected
set_option linter.unusedVariables false
set_option linter.unusedSimpArgs false
namespace Go.Proofs.Ytjcmmlbonljcnaa.X
open Go.RowKit Go.Lib Go.Proofs.YtjcmmlbonljcnaaW.PrintWords Go.Proofs.YtjcmmlbonljcnaaW.PrintLast Go.Proofs.YtjcmmlbonljcnaaW.PrintMore
attribute [local go_sem] max2_int min2_int max_two min_two max_three min_three max_four min_four

def sortI (xs : List Int) : List Int := xs.mergeSort (fun x y => decide (x ≤ y))
theorem sortI_len (xs : List Int) : (sortI xs).length = xs.length := by unfold sortI; simp
def sortB (xs : List ByteArray) : List ByteArray := ((xs.map (fun s => s.data.toList)).mergeSort (fun x y => decide (x ≤ y))).map (fun l => (⟨l.toArray⟩ : ByteArray))
theorem sortB_len (xs : List ByteArray) : (sortB xs).length = xs.length := by unfold sortB; simp

theorem mapBlock_other (w : World) (g : Nat) (f : Array Value → Array Value) (k : Nat) (h : k ≠ g) : (Go.Sort.mapBlock w g f).heap[k]? = w.heap[k]? := by
  unfold Go.Sort.mapBlock
  simp only [Array.getElem?_modify]
  rw [if_neg (fun e => h e.symm)]

theorem sort_calls {w0 : World} {base : Nat} {ok : Nat → Prop} (A : Option Addr) (c : Nat) (xs : List ByteArray) (W : World) (HR : Kd.R Kd.string 9 W base ok (.slice A xs.length c) xs) (HB : Below base w0 W) (hl : xs.length ≤ 1000000) :
    Calls Try.prog 23 #[.slice A xs.length c] W fun e w' => e = .returned (.tuple #[]) ∧ Below base w0 w' ∧ Kd.C Kd.string w' A xs.length (sortB xs) := by
  have hn : (sortB xs).length = xs.length := sortB_len xs
  obtain ⟨_, inner, ⟨ho1, ho2⟩, _⟩ := id HR
  rcases ho2 with ⟨he, h0⟩ | ⟨g, cap, cur, he, hg, hh, _⟩
  · obtain rfl : A = none := by injection he
    rw [h0]
    refine (Try.slices_Sort_string_none none c W).mono ?_
    rintro e w' ⟨rfl, rfl⟩
    refine ⟨rfl, HB, ⟨by rw [hn, h0], by simp, fun h => absurd h (by simp)⟩⟩
  · injection he with he1 he2 he3
    subst he1
    have hgs : g < W.heap.size := by
      rcases Nat.lt_or_ge g W.heap.size with h | h
      · exact h
      · rw [Array.getElem?_eq_none h] at hh; cases hh
    have hss : (xs.map (fun s => s.data.toList)).length = xs.length := by simp
    have hH : Go.Sort.Holds encStr W g 0 (xs.map (fun s => s.data.toList)).toArray := by
      intro j hj
      have hj' : j < xs.length := by simpa using hj
      have hc := Kd.R_cell (d := ByteArray.empty) HR (j : Int) (by omega) (by omega)
      rw [Int.toNat_natCast] at hc
      rw [Nat.zero_add]
      refine ⟨hc.1.trans ?_, hc.2⟩
      congr 1
      have : rdOf ByteArray.empty xs (j : Int) = xs[j] := by unfold rdOf; rw [Int.toNat_natCast, List.getD_eq_getElem?_getD, List.getElem?_eq_getElem hj']; rfl
      rw [this, getElem!_pos _ j hj]
      simp [encStr]
    have hS := Try.slices_Sort_string g 0 c (xs.map (fun s => s.data.toList)) W hH hgs (by rw [hss]; omega)
    rw [hss] at hS
    refine hS.mono ?_
    rintro e w' ⟨rfl, n, os, rfl⟩
    have hds : ((xs.map (fun s => s.data.toList)).mergeSort fun x y => decide (x ≤ y)).toArray.size = (xs.map (fun s => s.data.toList)).toArray.size := by simp
    refine ⟨rfl, ⟨HB.os, HB.tape, HB.output, ?_, ?_⟩, ⟨hn, ?_, ?_⟩⟩
    · rw [Go.Sort.size_grow, Go.Sort.size_putRow]
      exact Nat.le_trans HB.size (Nat.le_add_right _ _)
    · intro k hk
      rw [Go.Sort.heap_grow_old _ _ (by rw [Go.Sort.size_putRow]; show k < W.heap.size; omega)]
      exact (mapBlock_other _ _ _ _ (by omega)).trans (HB.block k hk)
    · exact Nat.le_trans hl (by decide)
    · intro hpos
      refine ⟨⟨g, 0, none⟩, rfl, ?_⟩
      intro j p hp
      refine ⟨[.string p], rfl, rfl, ?_⟩
      intro i u hu
      have hi0 : i = 0 := by
        have := (List.getElem?_eq_some_iff.1 hu).1
        simpa using this
      subst hi0
      obtain rfl : Value.string p = u := by simpa using hu
      have hjl : j < (sortB xs).length := (List.getElem?_eq_some_iff.1 hp).1
      have hj2 : j < ((xs.map (fun s => s.data.toList)).mergeSort fun x y => decide (x ≤ y)).toArray.size := by rw [hds]; simp; omega
      have hG := (Go.Sort.holds_grow encStr _ os g 0 _ (by rw [Go.Sort.size_putRow]; exact hgs) (Go.Sort.holds_putRow encStr (Go.Sort.ahead W n) g 0 _ _ (show Go.Sort.Holds encStr (Go.Sort.ahead W n) g 0 _ from hH) hds)) j hj2
      have h1 := hG.1
      rw [Nat.zero_add] at h1
      have hadd : (⟨g, 0, none⟩ : Addr).add (j * Kd.string.sz + 0) = ⟨g, j, none⟩ := by
        show (⟨g, 0, none⟩ : Addr).add (j * 1 + 0) = ⟨g, j, none⟩
        unfold Addr.add
        by_cases hz : j = 0 <;> simp [hz]
      rw [hadd, h1]
      congr 1
      unfold sortB at hp
      rw [List.getElem?_map] at hp
      obtain ⟨l, hl1, hl2⟩ := Option.map_eq_some_iff.1 hp
      rw [getElem!_pos _ j hj2]
      obtain ⟨hjx, hlx⟩ := List.getElem?_eq_some_iff.1 hl1
      rw [← hl2, ← hlx]
      simp [encStr]

theorem sort_callsI {w0 : World} {base : Nat} {ok : Nat → Prop} (A : Option Addr) (c : Nat) (xs : List Int) (W : World) (HR : Kd.R (Kd.int .i64) 3 W base ok (.slice A xs.length c) xs) (HB : Below base w0 W) (hl : xs.length ≤ 1000000) :
    Calls Try.prog 24 #[.slice A xs.length c] W fun e w' => e = .returned (.tuple #[]) ∧ Below base w0 w' ∧ Kd.C (Kd.int .i64) w' A xs.length (sortI xs) := by
  have hn : (sortI xs).length = xs.length := sortI_len xs
  obtain ⟨_, inner, ⟨ho1, ho2⟩, _⟩ := id HR
  rcases ho2 with ⟨he, h0⟩ | ⟨g, cap, cur, he, hg, hh, _⟩
  · obtain rfl : A = none := by injection he
    rw [h0]
    refine (Try.slices_Sort_int_none none c W).mono ?_
    rintro e w' ⟨rfl, rfl⟩
    refine ⟨rfl, HB, ⟨by rw [hn, h0], by simp, fun h => absurd h (by simp)⟩⟩
  · injection he with he1 he2 he3
    subst he1
    have hgs : g < W.heap.size := by
      rcases Nat.lt_or_ge g W.heap.size with h | h
      · exact h
      · rw [Array.getElem?_eq_none h] at hh; cases hh
    have hss : xs.length = xs.length := by simp
    have hH : Go.Sort.Holds (Value.int .i64) W g 0 xs.toArray := by
      intro j hj
      have hj' : j < xs.length := by simpa using hj
      have hc := Kd.R_cell (d := (0 : Int)) HR (j : Int) (by omega) (by omega)
      rw [Int.toNat_natCast] at hc
      rw [Nat.zero_add]
      refine ⟨hc.1.trans ?_, hc.2⟩
      congr 1
      have : rdOf (0 : Int) xs (j : Int) = xs[j] := by unfold rdOf; rw [Int.toNat_natCast, List.getD_eq_getElem?_getD, List.getElem?_eq_getElem hj']; rfl
      rw [this, getElem!_pos _ j hj]
      try simp
    have hS := Try.slices_Sort_int g 0 c xs W hH hgs (by rw [hss]; omega)
    rw [hss] at hS
    refine hS.mono ?_
    rintro e w' ⟨rfl, n, os, rfl⟩
    have hds : (xs.mergeSort fun x y => decide (x ≤ y)).toArray.size = xs.toArray.size := by simp
    refine ⟨rfl, ⟨HB.os, HB.tape, HB.output, ?_, ?_⟩, ⟨hn, ?_, ?_⟩⟩
    · rw [Go.Sort.size_grow, Go.Sort.size_putRow]
      exact Nat.le_trans HB.size (Nat.le_add_right _ _)
    · intro k hk
      rw [Go.Sort.heap_grow_old _ _ (by rw [Go.Sort.size_putRow]; show k < W.heap.size; omega)]
      exact (mapBlock_other _ _ _ _ (by omega)).trans (HB.block k hk)
    · exact Nat.le_trans hl (by decide)
    · intro hpos
      refine ⟨⟨g, 0, none⟩, rfl, ?_⟩
      intro j p hp
      refine ⟨[Value.int .i64 p], rfl, rfl, ?_⟩
      intro i u hu
      have hi0 : i = 0 := by
        have := (List.getElem?_eq_some_iff.1 hu).1
        simpa using this
      subst hi0
      obtain rfl : Value.int .i64 p = u := by simpa using hu
      have hjl : j < (sortI xs).length := (List.getElem?_eq_some_iff.1 hp).1
      have hj2 : j < (xs.mergeSort fun x y => decide (x ≤ y)).toArray.size := by rw [hds]; simp; omega
      have hG := (Go.Sort.holds_grow (Value.int .i64) _ os g 0 _ (by rw [Go.Sort.size_putRow]; exact hgs) (Go.Sort.holds_putRow (Value.int .i64) (Go.Sort.ahead W n) g 0 _ _ (show Go.Sort.Holds (Value.int .i64) (Go.Sort.ahead W n) g 0 _ from hH) hds)) j hj2
      have h1 := hG.1
      rw [Nat.zero_add] at h1
      have hadd : (⟨g, 0, none⟩ : Addr).add (j * (Kd.int .i64).sz + 0) = ⟨g, j, none⟩ := by
        show (⟨g, 0, none⟩ : Addr).add (j * 1 + 0) = ⟨g, j, none⟩
        unfold Addr.add
        by_cases hz : j = 0 <;> simp [hz]
      rw [hadd, h1]
      congr 1
      unfold sortI at hp
      rw [getElem!_pos _ j hj2]
      obtain ⟨hjx, hlx⟩ := List.getElem?_eq_some_iff.1 hp
      rw [← hlx]
      simp


theorem sortB_eq {xs l : List ByteArray} (hp : xs.Perm l) (hl : l.Pairwise fun a b => a.data.toList < b.data.toList) : sortB xs = l := by
  unfold sortB
  have h1 : (xs.map (fun s => s.data.toList)).mergeSort (fun x y => decide (x ≤ y)) = l.map (fun s => s.data.toList) := by
    have e1 := mergeSort_of_perm (hp.map (fun s : ByteArray => s.data.toList))
    have e2 : (l.map (fun s : ByteArray => s.data.toList)).mergeSort leB = l.map (fun s => s.data.toList) := by
      refine List.mergeSort_of_pairwise (List.pairwise_map.2 (hl.imp fun h => ?_))
      simp only [leB, decide_eq_true_eq]
      exact List.le_of_lt h
    exact e1.trans e2
  rw [h1, List.map_map]
  conv => rhs; rw [← List.map_id l]
  refine List.map_congr_left fun a _ => ?_
  simp
theorem sortI_eq {xs l : List Int} (hp : xs.Perm l) (hl : l.Pairwise fun a b => a < b) : sortI xs = l := by
  unfold sortI
  have hs : ∀ k : List Int, (k.mergeSort (fun x y => decide (x ≤ y))).Pairwise (fun a b => decide (a ≤ b) = true) := fun k => List.pairwise_mergeSort (fun a b c h1 h2 => by simp at h1 h2 ⊢; omega) (fun a b => by simp; omega) k
  refine List.Perm.eq_of_pairwise (le := fun a b => decide (a ≤ b) = true) (fun a b _ _ h1 h2 => by simp at h1 h2; omega) (hs xs) (hl.imp fun h => by simp; omega) ((List.mergeSort_perm xs _).trans hp)

/-! ### What a round over the map has come by -/
structure Coll (F : Pr → Bool) (L ps : List Pr) (left : Lit → Bool) : Prop where
  nd : ps.Nodup
  mem : ∀ p, p ∈ ps ↔ p ∈ L ∧ F p = true ∧ left (prL p) = false
theorem coll_start {F : Pr → Bool} {L : List Pr} {left : Lit → Bool} (h : ∀ p ∈ L, left (prL p) = true) : Coll F L [] left :=
  ⟨List.nodup_nil, fun p => ⟨fun hp => (by cases hp), fun ⟨h1, _, h3⟩ => by rw [h p h1] at h3; cases h3⟩⟩
theorem coll_end {F : Pr → Bool} {L ps : List Pr} {left : Lit → Bool} (hs : Srt L) (h : Coll F L ps left) (hl : ∀ kl, left kl = false) : ps.Perm (L.filter F) := by
  refine (List.perm_ext_iff_of_nodup h.nd ((srt_nodup hs).filter _)).2 fun p => ?_
  rw [h.mem, List.mem_filter, hl]
  simp
theorem coll_step {F : Pr → Bool} {L ps : List Pr} {left : Lit → Bool} (h : Coll F L ps left) (hok : ∀ p ∈ L, PrOk p) {x : Pr} (hx : x ∈ L) (hlk : left (prL x) = true) :
    (F x = true → Coll F L (ps ++ [x]) (fun z => left z && !z.sameKey (prL x))) ∧ (F x = false → Coll F L ps (fun z => left z && !z.sameKey (prL x))) := by
  have hkey := lawP.key (keyP (hok x hx))
  have hne : ∀ p ∈ L, p ≠ x → (prL p).sameKey (prL x) = false := by
    intro p hp hpx
    cases hs : (prL p).sameKey (prL x)
    · rfl
    · exact absurd (prL_inj (hok p hp) (hok x hx) (WideAt.sameKey_eq hs)) hpx
  have hxx : (prL x).sameKey (prL x) = true := WideAt.sameKey_self hkey
  have hnx : x ∉ ps := fun hm => by have := ((h.mem x).1 hm).2.2; rw [hlk] at this; cases this
  refine ⟨fun hF => ⟨?_, fun p => ?_⟩, fun hF => ⟨h.nd, fun p => ?_⟩⟩
  · rw [List.nodup_append]
    refine ⟨h.nd, by simp, fun a ha b hb => ?_⟩
    rw [List.mem_singleton.1 hb]
    rintro rfl
    exact hnx ha
  · rw [List.mem_append, h.mem, List.mem_singleton]
    by_cases e : p = x
    · subst e
      simp [hx, hF, hxx]
    · constructor
      · rintro (⟨h1, h2, h3⟩ | h1)
        · exact ⟨h1, h2, by simp [h3]⟩
        · exact absurd h1 e
      · rintro ⟨h1, h2, h3⟩
        rw [hne p h1 e] at h3
        exact .inl ⟨h1, h2, by simpa using h3⟩
  · rw [h.mem]
    by_cases e : p = x
    · subst e
      simp [hF]
    · constructor
      · rintro ⟨h1, h2, h3⟩
        exact ⟨h1, h2, by simp [h3]⟩
      · rintro ⟨h1, h2, h3⟩
        rw [hne p h1 e] at h3
        exact ⟨h1, h2, by simpa using h3⟩
theorem of_srt {L : List Pr} (h : Srt L) (c : Int) : (ofP c L).Pairwise fun a b => a.data.toList < b.data.toList := by
  unfold ofP
  refine List.pairwise_map.2 ?_
  have h1 : (L.filter fun q => decide (q.1 = c)).Pairwise fun p q => lessP p q = true := List.Pairwise.filter _ h
  refine List.Pairwise.imp_of_mem (fun {a b} ha hb hl => ?_) h1
  have e1 : a.1 = c := by simpa using (List.mem_filter.1 ha).2
  have e2 : b.1 = c := by simpa using (List.mem_filter.1 hb).2
  rcases less_iff.1 hl with h2 | h2
  · omega
  · exact h2.2
theorem hear_srt {L : List Pr} (h : Srt L) (s : ByteArray) : (hearP s L).Pairwise fun a b => a < b := by
  unfold hearP
  refine List.pairwise_map.2 ?_
  have h1 : (L.filter fun q => decide (q.2 = s)).Pairwise fun p q => lessP p q = true := List.Pairwise.filter _ h
  refine List.Pairwise.imp_of_mem (fun {a b} ha hb hl => ?_) h1
  have e1 : a.2 = s := by simpa using (List.mem_filter.1 ha).2
  have e2 : b.2 = s := by simpa using (List.mem_filter.1 hb).2
  rcases less_iff.1 hl with h2 | h2
  · exact h2
  · rw [e1, e2] at h2
    exact absurd h2.2 (List.lt_irrefl _)
end Go.Proofs.Ytjcmmlbonljcnaa.X
