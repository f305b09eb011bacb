/- Walks: who begins to hear, and who ceases. -/
import Derived.Test.YtjcmmlbonljcnaaSbOf
set_option linter.unusedVariables false
set_option linter.unusedSimpArgs false
namespace Go.Proofs.Ytjcmmlbonljcnaa.X
open Go.RowKit Go.Maps Go.ChangeMaps Go.MapKept Go.Proofs.Ytjcmmlbonljcnaa.Mv Go.Proofs.YtjcmmlbonljcnaaW.PrintWords

theorem rel_add {M : Lit → Option Value} {L : List Pr} (h : RelM M L) (p : Pr) : RelM (Mv.upd M (prL p) (some (.bool true))) (addP p L) := by
  refine ⟨fun kl v hv => ?_, fun q hq => ?_⟩
  · unfold Mv.upd at hv
    split at hv
    · rename_i e
      exact ⟨(Option.some.inj hv).symm, p, mem_add.2 (.inl rfl), e⟩
    · obtain ⟨h1, q, hq, e⟩ := h.1 kl v hv
      exact ⟨h1, q, mem_add.2 (.inr hq), e⟩
  · unfold Mv.upd
    split
    · rfl
    · rename_i e
      rcases mem_add.1 hq with rfl | hq
      · exact absurd rfl e
      · exact h.2 q hq
theorem rel_rem {M : Lit → Option Value} {L : List Pr} (h : RelM M L) (hok : ∀ q ∈ L, PrOk q) (p : Pr) (hp : PrOk p) : RelM (Mv.upd M (prL p) none) (remP p L) := by
  refine ⟨fun kl v hv => ?_, fun q hq => ?_⟩
  · unfold Mv.upd at hv
    split at hv
    · cases hv
    · rename_i hne
      obtain ⟨h1, q, hq, e⟩ := h.1 kl v hv
      exact ⟨h1, q, mem_rem.2 ⟨hq, fun e2 => hne (by rw [e, e2])⟩, e⟩
  · obtain ⟨h1, h2⟩ := mem_rem.1 hq
    unfold Mv.upd
    rw [if_neg (fun e => h2 (prL_inj (hok q h1) hp e))]
    exact h.2 q h1
theorem SubsAt.add {w : World} {g m n : Nat} {L : List Pr} {M : Lit → Option Value} (h1 : w.heap[g]? = some (.cells #[.map (some m)] 50 (0, 0))) {p : Pr} (hM : MapV Try.prog 52 w m (n + 1) (Mv.upd M (prL p) (some (.bool true)))) (hr : RelM M L) (hs : Srt L) (hok : ∀ q ∈ L, PrOk q) (hl : L.length ≤ n) (hp : PrOk p) : SubsAt w g m (n + 1) (addP p L) :=
  ⟨h1, _, hM, rel_add hr p, srt_add hs, fun q hq => by rcases mem_add.1 hq with rfl | hq; exact hp; exact hok q hq, Nat.le_trans len_add (by omega)⟩

set_option maxHeartbeats 1000000 in
set_option maxRecDepth 100000 in
theorem add_any (g m n : Nat) (L : List Pr) (c : Int) (t : ByteArray) (w : World) (H : SubsAt w g m n L) (hn : n < 1000000) (hp : PrOk (c, t)) :
    Calls Try.prog 12 #[.pointer (some ⟨g, 0, none⟩), .int .i64 c, .string t] w fun e w' => e = .returned (.int .i64 (ofP c (addP (c, t) L)).length) ∧ Aside0 (SubsAt w' g m (n + 1) (addP (c, t) L)) ∧ Aside0 (Kp (· = m) w w') := by
  have hlt := H.lt
  obtain ⟨h1, M, h2, h3, h4, h5, h6⟩ := H
  have c0 : w.cell? ⟨g, 0, none⟩ = some (.map (some m)) := by simp [World.cell?, h1]
  have hkey := keyP hp
  simp only [prV] at hkey
  have H1 := Aside0.mk h1
  have H2 := Aside0.mk h2
  have H3 := Aside0.mk h3
  have H4 := Aside0.mk h4
  have H5 := Aside0.mk h5
  clear h1 h2 h3 h4 h5
  obtain ⟨w2, hrun, hM2, ht2⟩ := H2.out.store lawP Try.underlying48 (by simp only [maxLen]; omega) (.bool true) hkey
  have HM2 := Aside0.mk hM2
  have HT2 := Aside0.mk ht2
  clear hM2 ht2
  go_enter Try.func12, Try.ntmps12
  go_wp2_with fail
  have HS2 := Aside0.mk (SubsAt.add ((turned_block HT2.out hlt.2.2).trans H1.out) HM2.out H3.out H4.out H5.out h6 hp)
  refine (of_any g m (n + 1) (addP (c, t) L) c w2 HS2.out (by omega)).mono ?_
  rintro e w3 ⟨A, k, rfl, hk, _, hB⟩
  go_wp2
  go_ret
  exact ⟨rfl, ⟨HS2.out.below hB.out⟩, ⟨((Kp.refl (· = m) _).turned HT2.out (.inl rfl)).trans (Kp.of_below (S := (· = m)) hB.out)⟩⟩

set_option maxHeartbeats 1000000 in
set_option maxRecDepth 100000 in
theorem remove_any (g m n : Nat) (L : List Pr) (c : Int) (t : ByteArray) (w : World) (H : SubsAt w g m n L) (hn : n ≤ 1000000) (hp : PrOk (c, t)) :
    Calls Try.prog 14 #[.pointer (some ⟨g, 0, none⟩), .int .i64 c, .string t] w fun e w' => e = .returned (.int .i64 (ofP c (remP (c, t) L)).length) ∧ Aside0 (SubsAt w' g m n (remP (c, t) L)) ∧ Aside0 (Kp (· = m) w w') := by
  have hlt := H.lt
  obtain ⟨h1, M, h2, h3, h4, h5, h6⟩ := H
  have c0 : w.cell? ⟨g, 0, none⟩ = some (.map (some m)) := by simp [World.cell?, h1]
  have hkey := keyP hp
  simp only [prV] at hkey
  have H1 := Aside0.mk h1
  have H2 := Aside0.mk h2
  have H3 := Aside0.mk h3
  have H4 := Aside0.mk h4
  have H5 := Aside0.mk h5
  clear h1 h2 h3 h4 h5
  obtain ⟨w2, hrun, hM2, ht2⟩ := H2.out.drop lawP Try.underlying48 hkey 0
  have HM2 := Aside0.mk hM2
  have HT2 := Aside0.mk ht2
  have HS2 := Aside0.mk (show SubsAt w2 g m n (remP (c, t) L) from ⟨(turned_block HT2.out hlt.2.2).trans H1.out, _, HM2.out, rel_rem H3.out H5.out (c, t) hp, srt_rem H4.out, fun q hq => H5.out q (mem_rem.1 hq).1, Nat.le_trans (List.length_filter_le _ _) h6⟩)
  clear hM2 ht2
  go_enter Try.func14, Try.ntmps14
  go_wp2_with fail
  refine (of_any g m n (remP (c, t) L) c w2 HS2.out hn).mono ?_
  rintro e w3 ⟨A, k, rfl, hk, _, hB⟩
  go_wp2
  go_ret
  exact ⟨rfl, ⟨HS2.out.below hB.out⟩, ⟨((Kp.refl (· = m) _).turned HT2.out (.inl rfl)).trans (Kp.of_below (S := (· = m)) hB.out)⟩⟩

/-- Where a round of Drop stands. -/
def DropRel (g m n : Nat) (c : Int) (L : List Pr) (w wr : World) : Prop :=
  ∃ left cnt M L', RangeV Try.prog 52 wr m w.heap.size n M left cnt ∧ RelM M L' ∧ Srt L' ∧ (∀ p, p ∈ L' ↔ p ∈ L ∧ (p.1 ≠ c ∨ left (prL p) = true)) ∧ Kp (· = m) w wr ∧ wr.heap[g]? = some (.cells #[.map (some m)] 50 (0, 0))

theorem drop_mem {c : Int} {L L' : List Pr} {left : Lit → Bool} (h : ∀ p, p ∈ L' ↔ p ∈ L ∧ (p.1 ≠ c ∨ left (prL p) = true)) (hok : ∀ p ∈ L, PrOk p) {x : Pr} (hx' : x ∈ L') :
    (x.1 = c → ∀ p, p ∈ remP x L' ↔ p ∈ L ∧ (p.1 ≠ c ∨ ((left (prL p) && !(prL p).sameKey (prL x)) && !(prL p).sameKey (prL x)) = true)) ∧ (¬ x.1 = c → ∀ p, p ∈ L' ↔ p ∈ L ∧ (p.1 ≠ c ∨ (left (prL p) && !(prL p).sameKey (prL x)) = true)) := by
  have hx := ((h x).1 hx').1
  have hxx : (prL x).sameKey (prL x) = true := WideAt.sameKey_self (lawP.key (keyP (hok x hx)))
  have hne : ∀ p ∈ L, p ≠ x → (prL p).sameKey (prL x) = false := by
    intro p hp hpx
    cases hs : (prL p).sameKey (prL x)
    · rfl
    · exact absurd (prL_inj (hok p hp) (hok x hx) (WideAt.sameKey_eq hs)) hpx
  refine ⟨fun hc p => ?_, fun hc p => ?_⟩
  · rw [mem_rem, h]
    by_cases e : p = x
    · subst e
      simp [hxx, hc]
    · constructor
      · rintro ⟨⟨h1, h2⟩, _⟩
        exact ⟨h1, by rw [hne p h1 e]; simpa using h2⟩
      · rintro ⟨h1, h2⟩
        rw [hne p h1 e] at h2
        exact ⟨⟨h1, by simpa using h2⟩, e⟩
  · rw [h]
    by_cases e : p = x
    · subst e
      simp [hxx, hc]
    · constructor
      · rintro ⟨h1, h2⟩
        exact ⟨h1, by rw [hne p h1 e]; simpa using h2⟩
      · rintro ⟨h1, h2⟩
        rw [hne p h1 e] at h2
        exact ⟨h1, by simpa using h2⟩
theorem srt_ext {L L' : List Pr} (h : Srt L) (h' : Srt L') (hm : ∀ p, p ∈ L ↔ p ∈ L') : L = L' := by
  refine List.Perm.eq_of_pairwise (le := fun p q => lessP p q = true) (fun a b _ _ h1 h2 => ?_) h h' ((List.perm_ext_iff_of_nodup (srt_nodup h) (srt_nodup h')).2 hm)
  have := less_trans h1 h2
  rw [less_irrefl] at this
  cases this

set_option maxHeartbeats 1000000 in
set_option maxRecDepth 100000 in
theorem drop_any (g m n : Nat) (L : List Pr) (c : Int) (w : World) (H : SubsAt w g m n L) :
    Calls Try.prog 17 #[.pointer (some ⟨g, 0, none⟩), .int .i64 c] w fun e w' => e = .returned (.tuple #[]) ∧ Aside0 (SubsAt w' g m n (dropP c L)) ∧ Aside0 (Kp (· = m) w w') := by
  have hlt := H.lt
  obtain ⟨h1, M, h2, h3, h4, h5, h6⟩ := H
  have c0 : w.cell? ⟨g, 0, none⟩ = some (.map (some m)) := by simp [World.cell?, h1]
  have H1 := Aside0.mk h1
  have H2 := Aside0.mk h2
  have H3 := Aside0.mk h3
  have H4 := Aside0.mk h4
  have H5 := Aside0.mk h5
  clear h1 h2 h3 h4 h5
  go_enter Try.func17, Try.ntmps17
  go_wp2_with (first
    | (at_range; refine op_range _ rfl _ 48 rfl 52 4 lawP Try.underlying48 m n M rfl H2.out ?_; intro w0 left cnt hrg hall hcn hg0 hs0))
  go_frame
  go_loopw [4] (fun _ wr => Aside0 (DropRel g m n c L w wr)) (fun _ wr => wr.rangeLeft m w.heap.size)
  case atStart =>
    exact ⟨left, cnt, M, L, hrg, H3.out, H4.out, fun p => ⟨fun hp => ⟨hp, .inr (hall _ (by rw [H3.out.2 p hp]; rfl))⟩, fun h => h.1⟩, Kp.of_grown hg0 fun k e => (by cases e), (hg0.block g hlt.1 (by simp)).trans H1.out⟩
  case round =>
    clear hrg hall hcn hg0 hs0
    obtain ⟨left, cnt, M', L', hrg, hM, hS, hI, hK, hG⟩ := hrel.out
    have c0 : wr.cell? ⟨g, 0, none⟩ = some (.map (some m)) := by simp [World.cell?, hG]
    have HRG := Aside0.mk hrg
    have HM := Aside0.mk hM
    have HS := Aside0.mk hS
    have HI := Aside0.mk hI
    have HK := Aside0.mk hK
    have HG := Aside0.mk hG
    clear hrg hM hS hI hK hG hrel
    go_wp2_with (first
      | (at_next; refine op_next (α := PrS) (β := OneS) _ rfl _ rfl 52 lawP mkP (fun _ => .bool true) m w.heap.size n M' left cnt ?_ ?_ rfl HRG.out ?_ ?_))
    · intro key kl hk
      obtain ⟨x, rfl, _⟩ := keyP_inv hk
      exact ⟨⟨x.1, x.2⟩, rfl⟩
    · exact fun v kl hM => ⟨⟨0⟩, (HM.out.1 kl v hM).1⟩
    · intro hc0 hl0
      go_wp2
      go_end0
      have e : L' = dropP c L := srt_ext HS.out (srt_drop H4.out) (fun p => by rw [HI.out, mem_drop, hl0]; simp)
      exact ⟨rfl, ⟨HG.out, M', HRG.out.map, e ▸ HM.out, srt_drop H4.out, fun q hq => H5.out q (mem_drop.1 hq).1, Nat.le_trans (List.length_filter_le _ _) h6⟩, HK⟩
    · intro x v kl w1 cnt1 hkey hlk hMk hrg1 hlt1 hg1 hs1 hen
      obtain ⟨a, t⟩ := x
      have hok' : ∀ p ∈ L', PrOk p := fun p hp => H5.out p ((HI.out p).1 hp).1
      obtain ⟨hxL, rfl⟩ := rel_mem (x := (a, t)) HM.out hok' hkey hMk
      have HRG1 := Aside0.mk hrg1
      have HLT := Aside0.mk hlt1
      have hkey' := hkey
      simp only [mkP] at hkey'
      have HLK := Aside0.mk hlk
      have HXL := Aside0.mk hxL
      have HOK := Aside0.mk hok'
      have hr0 := HK.out.size
      have HK1 := Aside0.mk (HK.out.trans' (T := fun k => k = w.heap.size) (Kp.of_grown hg1 fun k e => by cases e; exact .inl rfl) fun i e => .inr (by omega))
      have HG1 := Aside0.mk ((hg1.block g (by omega) (by simp; omega)).trans HG.out)
      have HSTEP := Aside0.mk (drop_mem (c := c) HI.out H5.out (x := (a, t)) hxL)
      simp only [mkP] at hen ⊢
      clear hkey hlk hMk hrg1 hlt1 hg1 hs1 hxL hok' c0
      obtain ⟨w2, hw2⟩ : ∃ w2, w1.alloc (.cells #[.int .i64 a, .string t] 52) = w2 := ⟨_, rfl⟩
      have hb2 : w2.heap[w1.heap.size]? = some (.cells #[.int .i64 a, .string t] 52 (0, 0)) := by rw [← hw2]; have := heap_alloc_new w1 (.cells #[.int .i64 a, .string t] 52); simpa using this
      have d0 : w2.cell? ⟨w1.heap.size, 0, none⟩ = some (.int .i64 a) := by simp [World.cell?, hb2]
      have d1 : w2.cell? ⟨w1.heap.size, 1, none⟩ = some (.string t) := by simp [World.cell?, hb2]
      clear hb2
      have HA := Aside0.mk (show Below w1.heap.size w1 w2 by rw [← hw2]; exact below_alloc (Below.refl _ _) _)
      have HRG2 := Aside0.mk (HRG1.out.same (HA.out.block m HRG1.out.map.lt) (HA.out.block _ HRG1.out.lt))
      have HK2 := Aside0.mk (HK1.out.trans (Kp.of_below (S := (· = m)) HA.out))
      have HG2 := Aside0.mk ((HA.out.block g (pwlt HG1.out)).trans HG1.out)
      have c0 : w2.cell? ⟨g, 0, none⟩ = some (.map (some m)) := by simp [World.cell?, HG2.out]
      by_cases hac : a = c
      · obtain ⟨w3, cnt3, hrun, hRG3, hle3, ht3⟩ := (HRG2.out.same (w1 := w2.drew) rfl rfl).drop lawP Try.underlying48 hkey' 0
        have HRG3 := Aside0.mk hRG3
        have HT3 := Aside0.mk ht3
        clear hRG3 ht3 hkey'
        subst hac
        go_wp2
        go_region
        all_goals go_wp2
        go_roundw
        case rel =>
          exact ⟨⟨_, cnt3, _, remP (a, t) L', HRG3.out, rel_rem HM.out HOK.out (a, t) (HOK.out _ HXL.out), srt_rem HS.out, HSTEP.out.1 (by first | trivial | rfl), HK2.out.drew.turned HT3.out (.inl rfl), (turned_block HT3.out hlt.2.2).trans HG2.out⟩⟩
        case measure =>
          have e1 := HRG3.out.left_eq
          have e2 := HRG.out.left_eq
          have := HLT.out
          rw [e2]
          first | (rw [e1]; omega) | (simp only [] at e1 ⊢; omega)
      · clear hkey'
        go_wp2
        go_roundw
        case rel =>
          exact ⟨⟨_, cnt1, M', L', HRG2.out, HM.out, HS.out, HSTEP.out.2 hac, HK2.out, HG2.out⟩⟩
        case measure =>
          have e1 := HRG2.out.left_eq
          have e2 := HRG.out.left_eq
          have := HLT.out
          rw [e2]
          first | (rw [e1]; exact this) | (simp only [] at e1 ⊢; omega)
end Go.Proofs.Ytjcmmlbonljcnaa.X
