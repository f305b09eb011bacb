/- Walk: Put of a value, a key that is there. -/
import Derived.Test.YtmhdkjihhdljlaaStGet
set_option linter.unusedVariables false
set_option linter.unusedSimpArgs false
namespace Go.Proofs.Ytmhdkjihhdljlaa.X
open Go.RowKit Go.Maps Go.ChangeMaps Go.MapKept Go.Proofs.Ytmhdkjihhdljlaa.Mv Go.Proofs.YtmhdkjihhdljlaaW.PrintWords
/-- Something became of a key. -/
def bump (k : ByteArray) (C : ByteArray → Int) : ByteArray → Int := fun x => if x = k then wrap64 (C k + 1) else C x
theorem relC_bump {N : Lit → Option Value} {C : ByteArray → Int} (h : RelC N C) (k : ByteArray) : RelC (Mv.upd N (nm k) (some (.int .i64 (wrap64 (C k + 1))))) (bump k C) := by
  refine ⟨fun s hs => ?_, fun s v hs => ?_⟩
  · unfold Mv.upd at hs
    split at hs
    · cases hs
    · rename_i hne
      unfold bump
      rw [if_neg (fun e => hne (by rw [e])), h.1 s hs]
  · unfold Mv.upd at hs
    split at hs
    · rename_i he
      cases hs
      unfold bump
      rw [if_pos (nm_inj he)]
    · rename_i hne
      unfold bump
      rw [if_neg (fun e => hne (by rw [e])), h.2 s v hs]
section
variable {w w1 : World} {b g me mc n nc : Nat} {now : Int} {A : List (Nat × Ent)} {C : ByteArray → Int}
theorem StoreAt.cell_kept (h : StoreAt w b g me mc n nc now A C) {m : Nat} (hm : m = me ∨ m = mc) (ht : w.mapTurned w1 m) : ∀ (k : Nat) (cs : Array Value) (t : TypeId), w.heap[k]? = some (.cells cs t (0, 0)) → w1.heap[k]? = w.heap[k]? := by
  intro k cs t hk
  refine turned_block ht (fun e => ?_)
  obtain ⟨M0, hM0, _⟩ := h.ents
  obtain ⟨N0, hN0, _⟩ := h.cnts
  rcases hm with rfl | rfl
  · subst e; exact MapV.noobj hM0 _ _ _ hk
  · subst e; exact MapV.noobj hN0 _ _ _ hk
/-- The count goes up, in memory. -/
theorem StoreAt.bump (h : StoreAt w b g me mc n nc now A C) (k : ByteArray) {N : Lit → Option Value} (hC : RelC N C) (hN' : MapV Try.prog 9 w1 mc (nc + 1) (Mv.upd N (nm k) (some (.int .i64 (wrap64 (C k + 1)))))) (ht : w.mapTurned w1 mc) : StoreAt w1 b g me mc n (nc + 1) now A (X.bump k C) := by
  have hc := h.cell_kept (.inr rfl) ht
  obtain ⟨M, hM, hR⟩ := h.ents
  refine ⟨(hc g _ _ h.top).trans h.top, ⟨M, hM.same (turned_block ht h.ne), hR⟩, ⟨_, hN', relC_bump hC k⟩, fun p hp => ?_, h.blks, h.srt, h.keys, h.len, h.oks, h.ne, h.hg, h.hme, h.hmc, h.hA⟩
  obtain ⟨v2, v3, v4, h1, h2⟩ := h.at_ p hp
  exact ⟨v2, v3, v4, (hc _ _ _ h1).trans h1, h2.move (fun k cs t hk _ _ _ => hc k cs t hk)⟩

set_option maxHeartbeats 1000000 in
set_option maxRecDepth 100000 in
theorem put_none (k : ByteArray) (hk : k.size ≤ maxLen) (hnc : nc < maxLen) (s : ByteArray) (A2 A3 A4 : Option Addr) (n2 n3 n4 c2 c3 c4 : Nat) (H : StoreAt w b g me mc n nc now A C) :
    Calls Try.prog 13 #[.pointer (some ⟨g, 0, none⟩), .string k, .agg #[.int .u8 0, .string s, .slice A2 n2 c2, .slice A3 n3 c3, .slice A4 n4 c4]] w fun e w' => e = .returned (.tuple #[]) ∧ Aside0 (match fnd k (letA k A) with | none => StoreAt w' b g me mc n nc now (letA k A) C | some _ => StoreAt w' b g me mc n (nc + 1) now (dropA k (letA k A)) (X.bump k C)) ∧ Aside0 (Kp (fun i => i = me ∨ i = mc) w w') := by
  obtain ⟨w0, hw0⟩ : ∃ w0, w.alloc (.cells #[.int .u8 0, .string s, .slice A2 n2 c2, .slice A3 n3 c3, .slice A4 n4 c4] 26) = w0 := ⟨_, rfl⟩
  have hb0 : w0.heap[w.heap.size]? = some (.cells #[.int .u8 0, .string s, .slice A2 n2 c2, .slice A3 n3 c3, .slice A4 n4 c4] 26 (0, 0)) := by rw [← hw0]; have := heap_alloc_new w (.cells #[.int .u8 0, .string s, .slice A2 n2 c2, .slice A3 n3 c3, .slice A4 n4 c4] 26); simpa using this
  have HB0 := Aside0.mk (show Below w.heap.size w w0 by rw [← hw0]; exact (Below.refl _ _).alloc (Nat.le_refl _) _)
  have HH := Aside0.mk (H.below HB0.out)
  have HL0 := Aside0.mk H.lt
  have HS0 := Aside0.mk HB0.out.size
  have HZ := Aside0.mk hb0
  clear H hb0
  have F := Aside0.mk (find_any k hk HH.out)
  cases hf : fnd k (letA k A) with
  | none =>
    rw [hf] at F
    simp only [ptrOf] at F
    go_enter Try.func13, Try.ntmps13
    go_wp2_with fail
    refine F.out.mono ?_
    rintro e w1 ⟨rfl, H1, K1⟩
    have HK := Aside0.mk ((Kp.of_below (S := (· = me)) HB0.out).trans K1.out)
    have HZ1 := Aside0.mk ((K1.out.block w.heap.size (pwlt HZ.out) (by have := HL0.out; omega)).trans HZ.out)
    have z0 : w1.cell? ⟨w.heap.size, 0, none⟩ = some (.int .u8 0) := by simp [World.cell?, HZ1.out]
    go_wp2
    (try simp only [Exit.inBlock, Exit.then]); refine bodyPost_ret (results_none rfl _ _ _) rfl ?_
    exact ⟨rfl, H1, ⟨HK.out.mono fun _ h => .inl h⟩⟩
  | some p =>
    rw [hf] at F
    simp only [ptrOf] at F
    obtain ⟨pe, px⟩ := p
    have HP := Aside0.mk (fnd_some hf).1
    simp only at *
    clear hf
    go_enter Try.func13, Try.ntmps13
    go_wp2_with fail
    refine F.out.mono ?_
    rintro e w1 ⟨rfl, H1, K1⟩
    have HK := Aside0.mk ((Kp.of_below (S := (· = me)) HB0.out).trans K1.out)
    have HZ1 := Aside0.mk ((K1.out.block w.heap.size (pwlt HZ.out) (by have := HL0.out; omega)).trans HZ.out)
    have z0 : w1.cell? ⟨w.heap.size, 0, none⟩ = some (.int .u8 0) := by simp [World.cell?, HZ1.out]
    have d1 : w1.cell? ⟨g, 1, none⟩ = some (.map (some me)) := by simp [World.cell?, H1.out.top]
    have hkey := key9 hk
    obtain ⟨M, hM, hR⟩ := H1.out.ents
    obtain ⟨w2, hrun, hM2, ht2⟩ := hM.drop law9 Try.underlying59 hkey 0
    have HS2 := Aside0.mk (H1.out.drop k hR hM2 ht2)
    have HK2 := Aside0.mk ((HK.out.mono (T := fun i => i = me ∨ i = mc) fun _ h => .inl h).turned ht2 (.inl (.inl rfl)))
    have d2 : w2.cell? ⟨g, 2, none⟩ = some (.map (some mc)) := by simp [World.cell?, HS2.out.top]
    obtain ⟨N, hN, hC⟩ := HS2.out.cnts
    have hlook := (hN.lookup law9 Try.underlying60 (zeroI w2) hkey).1
    have e : (N (nm k)).getD (.int .i64 0) = .int .i64 (C k) := by
      cases h : N (nm k) with
      | none => rw [hC.1 _ h]; rfl
      | some v => rw [hC.2 _ _ h]; rfl
    rw [e] at hlook
    obtain ⟨w3, hrun3, hN3, ht3⟩ := hN.store law9 Try.underlying60 hnc (.int .i64 (wrap64 (C k + 1))) hkey
    have HS3 := Aside0.mk (HS2.out.bump k hC hN3 ht3)
    have HK3 := Aside0.mk (HK2.out.turned ht3 (.inl (.inr rfl)))
    clear hM hR hM2 ht2 hN hC e hN3 ht3 hkey
    go_wp2
    go_end0
    exact ⟨rfl, HS3, HK3⟩
end
end Go.Proofs.Ytmhdkjihhdljlaa.X
namespace Go.Proofs.Ytmhdkjihhdljlaa.X
open Go.RowKit Go.Maps Go.ChangeMaps Go.MapKept Go.Proofs.Ytmhdkjihhdljlaa.Mv Go.Proofs.YtmhdkjihhdljlaaW.PrintWords
theorem C_kept {α : Type} {d : Kd α} {w w1 : World} {A : Option Addr} {n : Nat} {xs : List α} (h : d.C w A n xs) (hc : ∀ a v, w.cell? a = some v → w1.cell? a = some v) (hK : ∀ x cs, d.K w x cs → d.K w1 x cs := by with_unfolding_all exact fun _ _ h => h) : d.C w1 A n xs :=
  ⟨h.1, h.2.1, fun hn => by
    obtain ⟨ad, e, hh⟩ := h.2.2 hn
    refine ⟨ad, e, fun j p hj => ?_⟩
    obtain ⟨c, hs, hr, hcell⟩ := hh j p hj
    exact ⟨c, hs, hK _ _ hr, fun i u hu => hc _ _ (hcell i u hu)⟩⟩
theorem cells_kept {w w1 : World} {b g me mc n nc : Nat} {now : Int} {A : List (Nat × Ent)} {C : ByteArray → Int} (h : StoreAt w b g me mc n nc now A C) (hk : Kp (· = me) w w1) : ∀ a v, w.cell? a = some v → w1.cell? a = some v := by
  intro a v ha
  refine hk.cell ha (fun e => ?_)
  obtain ⟨M, hM, _⟩ := h.ents
  obtain ⟨D, ⟨es, clock, h1, _⟩, _⟩ := hM
  have e : a.block = me := e
  rw [← e] at h1
  simp [World.cell?, h1] at ha
/-- A new key's entry, in order. -/
def insA (p : Nat × Ent) (A : List (Nat × Ent)) : List (Nat × Ent) := A.filter (fun q => decide (q.2.key.data.toList < p.2.key.data.toList)) ++ p :: A.filter (fun q => !decide (q.2.key.data.toList < p.2.key.data.toList))
theorem insA_perm (p : Nat × Ent) (A : List (Nat × Ent)) : (insA p A).Perm (p :: A) :=
  List.perm_middle.trans ((List.filter_append_perm _ A).cons p)
theorem key_lt {a b : ByteArray} (h : ¬ a.data.toList < b.data.toList) (hne : a ≠ b) : b.data.toList < a.data.toList := by
  by_cases h2 : b.data.toList < a.data.toList
  · exact h2
  · refine absurd ?_ hne
    have := List.le_antisymm (List.not_lt.1 h2) (List.not_lt.1 h)
    exact nm_inj (by simp [nm, this])
theorem srt_ins {p : Nat × Ent} {A : List (Nat × Ent)} (hs : KSrt A) (hn : ∀ q ∈ A, q.2.key ≠ p.2.key) : KSrt (insA p A) := by
  unfold insA KSrt
  refine List.pairwise_append.2 ⟨hs.filter _, List.pairwise_cons.2 ⟨fun q hq => ?_, hs.filter _⟩, fun a ha c hc => ?_⟩
  · obtain ⟨h1, h2⟩ := List.mem_filter.1 hq
    exact key_lt (by simpa using h2) (hn q h1)
  · have h1 : a.2.key.data.toList < p.2.key.data.toList := by simpa using (List.mem_filter.1 ha).2
    rcases List.mem_cons.1 hc with rfl | hc
    · exact h1
    · obtain ⟨h3, h2⟩ := List.mem_filter.1 hc
      exact List.lt_trans h1 (key_lt (by simpa using h2) (hn c h3))
theorem relE_ins {M : Lit → Option Value} {p : Nat × Ent} {A : List (Nat × Ent)} (h : RelE M A) (hn : ∀ q ∈ A, q.2.key ≠ p.2.key) : RelE (Mv.upd M (nm p.2.key) (some (.pointer (some ⟨p.1, 0, none⟩)))) (insA p A) := by
  refine ⟨fun kl v hv => ?_, fun q hq => ?_⟩
  · unfold Mv.upd at hv
    split at hv
    · rename_i e
      cases hv
      exact ⟨p, (insA_perm p A).mem_iff.2 (List.mem_cons_self), e, rfl⟩
    · obtain ⟨q, hq, e1, e2⟩ := h.1 kl v hv
      exact ⟨q, (insA_perm p A).mem_iff.2 (List.mem_cons_of_mem _ hq), e1, e2⟩
  · unfold Mv.upd
    rcases List.mem_cons.1 ((insA_perm p A).mem_iff.1 hq) with rfl | hq
    · rw [if_pos rfl]
    · rw [if_neg (fun e => hn q hq (nm_inj e))]
      exact h.2 q hq
section
variable {w w1 : World} {b g me mc n nc : Nat} {now : Int} {A : List (Nat × Ent)} {C : ByteArray → Int}
/-- A new key, in memory. -/
theorem StoreAt.ins (h : StoreAt w b g me mc n nc now A C) (p : Nat × Ent) (hp : EntAt w b p.1 p.2) (hb : b ≤ p.1) (hf : fnd p.2.key A = none) (hfr : ∀ q ∈ A, q.1 ≠ p.1) (hk : p.2.key.size ≤ maxLen) (ho : VOk p.2.v) {M : Lit → Option Value} (hR : RelE M A) (hM' : MapV Try.prog 9 w1 me (n + 1) (Mv.upd M (nm p.2.key) (some (.pointer (some ⟨p.1, 0, none⟩))))) (ht : w.mapTurned w1 me) : StoreAt w1 b g me mc (n + 1) nc now (insA p A) C := by
  have hc := h.cell_kept (.inl rfl) ht
  obtain ⟨N, hN, hC⟩ := h.cnts
  have hm : ∀ q, q ∈ insA p A → q = p ∨ q ∈ A := fun q hq => List.mem_cons.1 ((insA_perm p A).mem_iff.1 hq)
  have hno := fnd_none hf
  refine ⟨(hc g _ _ h.top).trans h.top, ⟨_, hM', relE_ins hR hno⟩, ⟨N, hN.same (turned_block ht (Ne.symm h.ne)), hC⟩, fun q hq => ?_, ((insA_perm p A).map _).nodup_iff.2 (List.nodup_cons.2 ⟨?_, h.blks⟩), srt_ins h.srt hno, fun q hq => ?_, ?_, fun q hq => ?_, h.ne, h.hg, h.hme, h.hmc, fun q hq => ?_⟩
  · have hE : EntAt w b q.1 q.2 := by rcases hm q hq with rfl | hq; exact hp; exact h.at_ q hq
    obtain ⟨v2, v3, v4, h1, h2⟩ := hE
    exact ⟨v2, v3, v4, (hc _ _ _ h1).trans h1, h2.move (fun k cs t hk _ _ _ => hc k cs t hk)⟩
  · intro hin
    obtain ⟨q, hq, e⟩ := List.mem_map.1 hin
    exact hfr q hq e
  · rcases hm q hq with rfl | hq
    · exact hk
    · exact h.keys q hq
  · rw [(insA_perm p A).length_eq, List.length_cons]
    have := h.len
    omega
  · rcases hm q hq with rfl | hq
    · exact ho
    · exact h.oks q hq
  · rcases hm q hq with rfl | hq
    · exact hb
    · exact h.hA q hq

set_option maxHeartbeats 1000000 in
set_option maxRecDepth 100000 in
theorem put_new (k : ByteArray) (hk : k.size ≤ maxLen) (hn : n < maxLen) (hnc : nc < maxLen) (x : Vl) (hx : VOk x) (hx0 : x.kind ≠ 0) (A2 A3 A4 : Option Addr) (c2 c3 c4 : Nat) (l2 : x.l.length ≤ c2) (l3 : x.h.length ≤ c3) (l4 : x.z.length ≤ c4) (C2 : Kd.C Kd.string w A2 x.l.length x.l) (C3 : Kd.C kPair w A3 x.h.length x.h) (C4 : Kd.C kMark w A4 x.z.length x.z) (H : StoreAt w b g me mc n nc now A C) (hf : fnd k (letA k A) = none) :
    Calls Try.prog 13 #[.pointer (some ⟨g, 0, none⟩), .string k, .agg #[.int .u8 x.kind, .string x.s, .slice A2 x.l.length c2, .slice A3 x.h.length c3, .slice A4 x.z.length c4]] w fun e w' => e = .returned (.tuple #[]) ∧ ∃ q, w.heap.size ≤ q ∧ Aside0 (StoreAt w' b g me mc (n + 1) (nc + 1) now (insA (q, ⟨k, x, 0, false⟩) (letA k A)) (X.bump k C)) ∧ Aside0 (Kp (fun i => i = me ∨ i = mc) w w') := by
  obtain ⟨kd, s, l, h, z⟩ := x
  simp only at *
  have hk0 : (kd == 0) = false := by simpa using hx0
  have HX := Aside0.mk hx0
  clear hx0
  obtain ⟨w0, hw0⟩ : ∃ w0, w.alloc (.cells #[.int .u8 kd, .string s, .slice A2 l.length c2, .slice A3 h.length c3, .slice A4 z.length c4] 26) = w0 := ⟨_, rfl⟩
  have hb0 : w0.heap[w.heap.size]? = some (.cells #[.int .u8 kd, .string s, .slice A2 l.length c2, .slice A3 h.length c3, .slice A4 z.length c4] 26 (0, 0)) := by rw [← hw0]; have := heap_alloc_new w (.cells #[.int .u8 kd, .string s, .slice A2 l.length c2, .slice A3 h.length c3, .slice A4 z.length c4] 26); simpa using this
  have HB0 := Aside0.mk (show Below w.heap.size w w0 by rw [← hw0]; exact (Below.refl _ _).alloc (Nat.le_refl _) _)
  have HH := Aside0.mk (H.below HB0.out)
  have HL0 := Aside0.mk H.lt
  have HS0 := Aside0.mk HB0.out.size
  have HZ := Aside0.mk hb0
  clear H hb0
  have F := Aside0.mk (find_any k hk HH.out)
  rw [hf] at F
  simp only [ptrOf] at F
  have HL := Aside0.mk (And.intro l2 (And.intro l3 l4))
  have HC := Aside0.mk (And.intro C2 (And.intro C3 C4))
  have HF := Aside0.mk hf
  have hvo := Aside0.mk (own_f hx)
  have HO := Aside0.mk hx
  simp only at hvo
  clear l2 l3 l4 C2 C3 C4 hf hx
  go_enter Try.func13, Try.ntmps13
  go_wp2_with fail
  refine F.out.mono ?_
  rintro e w1 ⟨rfl, H1, K1⟩
  have HK := Aside0.mk ((Kp.of_below (S := (· = me)) HB0.out).trans K1.out)
  have HZ1 := Aside0.mk ((K1.out.block w.heap.size (pwlt HZ.out) (by have := HL0.out; omega)).trans HZ.out)
  have z0 : w1.cell? ⟨w.heap.size, 0, none⟩ = some (.int .u8 kd) := by simp [World.cell?, HZ1.out]
  have z1 : w1.cell? ⟨w.heap.size, 1, none⟩ = some (.string s) := by simp [World.cell?, HZ1.out]
  have z2 : w1.cell? ⟨w.heap.size, 2, none⟩ = some (.slice A2 l.length c2) := by simp [World.cell?, HZ1.out]
  have z3 : w1.cell? ⟨w.heap.size, 3, none⟩ = some (.slice A3 h.length c3) := by simp [World.cell?, HZ1.out]
  have z4 : w1.cell? ⟨w.heap.size, 4, none⟩ = some (.slice A4 z.length c4) := by simp [World.cell?, HZ1.out]
  have d1 : w1.cell? ⟨g, 1, none⟩ = some (.map (some me)) := by simp [World.cell?, H1.out.top]
  go_wp2_with fail
  have HC1 := Aside0.mk (And.intro (C_kept (w1 := w1.drew) (Kd.C_below HC.out.1 HB0.out) (cells_kept HH.out K1.out.drew)) (And.intro (C_kept (w1 := w1.drew) (Kd.C_below HC.out.2.1 HB0.out) (cells_kept HH.out K1.out.drew)) (C_kept (w1 := w1.drew) (Kd.C_below HC.out.2.2 HB0.out) (cells_kept HH.out K1.out.drew))))
  have hkey := key9 hk
  go_region_held3 (fun wz => wz.cell? ⟨w.heap.size, 0, none⟩ = some (.int .u8 kd) ∧ wz.cell? ⟨w.heap.size, 1, none⟩ = some (.string s) ∧ wz.cell? ⟨w.heap.size, 2, none⟩ = some (.slice A2 l.length c2) ∧ wz.cell? ⟨w.heap.size, 3, none⟩ = some (.slice A3 h.length c3) ∧ wz.cell? ⟨w.heap.size, 4, none⟩ = some (.slice A4 z.length c4) ∧ wz.cell? ⟨g, 1, none⟩ = some (.map (some me))) (first | exact ⟨z0, z1, z2, z3, z4, d1⟩ | exact ⟨y0, y1, y2, y3, y4, e1⟩ | exact ⟨q0, q1, q2, q3, q4, q5⟩ | exact ⟨p0, p1, p2, p3, p4, p5⟩) (first
    | (go_at_call 40
       refine (value_Own.calls kd s _ _ l _ _ h _ _ z kd s l h z _ HC1.out.1 HL.out.1 HC1.out.2.1 HL.out.2.1 HC1.out.2.2 HL.out.2.2 hvo.out).mono ?_
       rintro e w2 ⟨v2, v3, v4, rfl, R2, R3, R4, B2⟩
       obtain ⟨E2, e2, rfl⟩ := Kd.R_slice R2
       obtain ⟨E3, e3, rfl⟩ := Kd.R_slice R3
       obtain ⟨E4, e4, rfl⟩ := Kd.R_slice R4
       have HB2 := Aside0.mk B2
       have HR := Aside0.mk (And.intro R2 (And.intro R3 R4))
       clear R2 R3 R4 B2
       have y0 := (HB2.out.cell (World.block_lt_of_cell? _ _ z0)).trans z0
       have y1 := (HB2.out.cell (World.block_lt_of_cell? _ _ z1)).trans z1
       have y2 := (HB2.out.cell (World.block_lt_of_cell? _ _ z2)).trans z2
       have y3 := (HB2.out.cell (World.block_lt_of_cell? _ _ z3)).trans z3
       have y4 := (HB2.out.cell (World.block_lt_of_cell? _ _ z4)).trans z4
       have e1 := (HB2.out.cell (World.block_lt_of_cell? _ _ d1)).trans d1
       obtain ⟨w3, hw3⟩ : ∃ w3, w2.alloc (.cells #[.int .u8 kd, .string s, .slice E2 l.length e2, .slice E3 h.length e3, .slice E4 z.length e4, .int .i64 0, .bool false] 74) = w3 := ⟨_, rfl⟩
       have HB3 := Aside0.mk (show Below w2.heap.size w2 w3 by rw [← hw3]; exact (Below.refl _ _).alloc (Nat.le_refl _) _)
       have hb3 : w3.heap[w2.heap.size]? = some (.cells #[.int .u8 kd, .string s, .slice E2 l.length e2, .slice E3 h.length e3, .slice E4 z.length e4, .int .i64 0, .bool false] 74 (0, 0)) := by rw [← hw3]; have := heap_alloc_new w2 (.cells #[.int .u8 kd, .string s, .slice E2 l.length e2, .slice E3 h.length e3, .slice E4 z.length e4, .int .i64 0, .bool false] 74); simpa using this
       have HE3 := Aside0.mk hb3
       clear hb3
       have q0 := (HB3.out.cell (World.block_lt_of_cell? _ _ y0)).trans y0
       have q1 := (HB3.out.cell (World.block_lt_of_cell? _ _ y1)).trans y1
       have q2 := (HB3.out.cell (World.block_lt_of_cell? _ _ y2)).trans y2
       have q3 := (HB3.out.cell (World.block_lt_of_cell? _ _ y3)).trans y3
       have q4 := (HB3.out.cell (World.block_lt_of_cell? _ _ y4)).trans y4
       have q5 := (HB3.out.cell (World.block_lt_of_cell? _ _ e1)).trans e1
       have HS3 := Aside0.mk (((StoreAt.off (w1 := w1.drew) H1.out HZ1.out fun _ _ => rfl).below HB2.out).below HB3.out)
       obtain ⟨M, hM, hR⟩ := HS3.out.ents
       obtain ⟨w4, hrun, hM4, ht4⟩ := hM.store law9 Try.underlying59 hn (.pointer (some ⟨w2.heap.size, 0, none⟩)) hkey
       have HM4 := Aside0.mk (And.intro hR (And.intro hM4 ht4))
       have p0 := (turned_cell ht4 _).trans q0
       have p1 := (turned_cell ht4 _).trans q1
       have p2 := (turned_cell ht4 _).trans q2
       have p3 := (turned_cell ht4 _).trans q3
       have p4 := (turned_cell ht4 _).trans q4
       have p5 := (turned_cell ht4 _).trans q5
       clear hM hR hM4 ht4))
  have hb2 := HB2.out.size
  have hk1 := HK.out.size
  simp only [World.size_drew] at hb2
  have HE := Aside0.mk (show EntAt w3 b w2.heap.size ⟨k, ⟨kd, s, l, h, z⟩, 0, false⟩ from by
    have hl := H1.out.lt
    have hg := H1.out.hg
    have hbw : b ≤ w1.drew.heap.size := by simp only [World.size_drew]; omega
    refine ⟨_, _, _, HE3.out, ?_⟩
    have hR : RowsAt w2 b ⟨kd, s, l, h, z⟩ (.slice E2 l.length e2) (.slice E3 h.length e3) (.slice E4 z.length e4) := ⟨Kd.R_lower HR.out.1 hbw, Kd.R_lower HR.out.2.1 hbw, Kd.R_lower HR.out.2.2 hbw⟩
    exact hR.move fun k cs t hk _ _ _ => HB3.out.block k (pwlt hk))
  have HS4 := Aside0.mk (HS3.out.ins (w2.heap.size, ⟨k, ⟨kd, s, l, h, z⟩, 0, false⟩) HE.out (by have := H1.out.lt; have := H1.out.hg; show b ≤ w2.heap.size; omega) HF.out (fun q hq e => by have := (H1.out.at_ q hq).lt; have e : q.1 = w2.heap.size := e; omega) hk HO.out HM4.out.1 HM4.out.2.1 HM4.out.2.2)
  have HK4 := Aside0.mk (((((HK.out.mono (T := fun i => i = me ∨ i = mc) fun _ h => .inl h).drew.trans (Kp.of_below HB2.out)).trans (Kp.of_below HB3.out))).turned HM4.out.2.2 (.inl (.inl rfl)))
  have hsz : w.heap.size ≤ w2.heap.size := by omega
  clear p0 p1 p2 p3 p4 p5 q0 q1 q2 q3 q4 q5 y0 y1 y2 y3 y4 e1 z0 z1 z2 z3 z4 d1 hrun hb2 hk1
  have d2 : w4.cell? ⟨g, 2, none⟩ = some (.map (some mc)) := by simp [World.cell?, HS4.out.top]
  obtain ⟨N, hN, hC⟩ := HS4.out.cnts
  have hlook := (hN.lookup law9 Try.underlying60 (zeroI w4) hkey).1
  have e : (N (nm k)).getD (.int .i64 0) = .int .i64 (C k) := by
    cases h : N (nm k) with
    | none => rw [hC.1 _ h]; rfl
    | some v => rw [hC.2 _ _ h]; rfl
  rw [e] at hlook
  obtain ⟨w5, hrun5, hN5, ht5⟩ := hN.store law9 Try.underlying60 hnc (.int .i64 (wrap64 (C k + 1))) hkey
  have HS5 := Aside0.mk (HS4.out.bump k hC hN5 ht5)
  have HK5 := Aside0.mk (HK4.out.turned ht5 (.inl (.inr rfl)))
  clear hN hC e hN5 ht5 hkey
  go_wp2
  go_end0
  exact ⟨rfl, _, hsz, HS5, HK5⟩
end
end Go.Proofs.Ytmhdkjihhdljlaa.X
namespace Go.Proofs.Ytmhdkjihhdljlaa.X
open Go.RowKit Go.Maps Go.ChangeMaps Go.MapKept Go.Proofs.Ytmhdkjihhdljlaa.Mv Go.Proofs.YtmhdkjihhdljlaaW.PrintWords
theorem blk_uniq {A : List (Nat × Ent)} (hs : (A.map (·.1)).Nodup) {p q : Nat × Ent} (hp : p ∈ A) (hq : q ∈ A) (h : p.1 = q.1) : p = q := by
  induction A with
  | nil => cases hp
  | cons a A ih =>
    rw [List.map_cons] at hs
    obtain ⟨h1, h2⟩ := List.nodup_cons.1 hs
    rcases List.mem_cons.1 hp with e1 | hp' <;> rcases List.mem_cons.1 hq with e2 | hq'
    · rw [e1, e2]
    · exact absurd (List.mem_map.2 ⟨q, hq', by rw [← h, e1]⟩) h1
    · exact absurd (List.mem_map.2 ⟨p, hp', by rw [h, e2]⟩) h1
    · exact ih h2 hp' hq'
/-- A key's entry becomes e. -/
def updA (k : ByteArray) (e : Ent) (A : List (Nat × Ent)) : List (Nat × Ent) := A.map fun p => if p.2.key = k then (p.1, e) else p
theorem updA_fst (k : ByteArray) (e : Ent) (A : List (Nat × Ent)) : (updA k e A).map (·.1) = A.map (·.1) := by
  unfold updA
  rw [List.map_map]
  refine List.map_congr_left fun p _ => ?_
  simp only [Function.comp]
  split <;> rfl
theorem mem_updA {k : ByteArray} {e : Ent} {A : List (Nat × Ent)} {q : Nat × Ent} (h : q ∈ updA k e A) : (∃ p ∈ A, p.2.key = k ∧ q = (p.1, e)) ∨ (q ∈ A ∧ q.2.key ≠ k) := by
  obtain ⟨p, hp, e1⟩ := List.mem_map.1 h
  split at e1
  · exact .inl ⟨p, hp, ‹_›, e1.symm⟩
  · subst e1; exact .inr ⟨hp, ‹_›⟩
theorem updA_keys {k : ByteArray} {e : Ent} (he : e.key = k) (A : List (Nat × Ent)) : (updA k e A).map (·.2.key) = A.map (·.2.key) := by
  unfold updA
  rw [List.map_map]
  refine List.map_congr_left fun p _ => ?_
  simp only [Function.comp]
  split
  · rw [he]; exact Eq.symm ‹_›
  · rfl
theorem srt_upd {k : ByteArray} {e : Ent} (he : e.key = k) {A : List (Nat × Ent)} (h : KSrt A) : KSrt (updA k e A) := by
  have h1 : (A.map (·.2.key)).Pairwise (fun a b => a.data.toList < b.data.toList) := List.pairwise_map.2 h
  rw [← updA_keys he] at h1
  have h2 := List.pairwise_map.1 h1
  exact h2
theorem relE_upd {M : Lit → Option Value} {A : List (Nat × Ent)} (h : RelE M A) {k : ByteArray} {e : Ent} (he : e.key = k) : RelE M (updA k e A) := by
  refine ⟨fun kl v hv => ?_, fun q hq => ?_⟩
  · obtain ⟨p, hp, e1, e2⟩ := h.1 kl v hv
    refine ⟨if p.2.key = k then (p.1, e) else p, List.mem_map.2 ⟨p, hp, rfl⟩, ?_, ?_⟩
    · split
      · rename_i h1; rw [e1, he, h1]
      · exact e1
    · split <;> exact e2
  · rcases mem_updA hq with ⟨p, hp, h1, rfl⟩ | ⟨hq, _⟩
    · have := h.2 p hp
      show M (nm e.key) = _
      rw [he, ← h1]
      exact this
    · exact h.2 q hq
section
variable {w w1 : World} {b g me mc n nc : Nat} {now : Int} {A : List (Nat × Ent)} {C : ByteArray → Int}
/-- A key's entry is written anew, in memory. -/
theorem StoreAt.upd (h : StoreAt w b g me mc n nc now A C) {p : Nat × Ent} (hp : p ∈ A) {e : Ent} (he : e.key = p.2.key) (hE : EntAt w1 b p.1 e) (ho : VOk e.v) (hk : ∀ k, k ≠ p.1 → w1.heap[k]? = w.heap[k]?) : StoreAt w1 b g me mc n nc now (updA p.2.key e A) C := by
  obtain ⟨M, hM, hR⟩ := h.ents
  obtain ⟨N, hN, hC⟩ := h.cnts
  obtain ⟨_, _, _, hpc, _⟩ := h.at_ p hp
  have hc : ∀ (k : Nat) (cs1 : Array Value) (t : TypeId), w.heap[k]? = some (.cells cs1 t (0, 0)) → t ≠ 74 → w1.heap[k]? = w.heap[k]? := by
    intro k cs1 t h1 ht
    refine hk k ?_
    rintro rfl
    rw [hpc] at h1
    injection h1 with h1
    injection h1 with _ h1 _
    exact ht h1.symm
  refine ⟨(hc g _ _ h.top (by decide)).trans h.top, ⟨M, hM.same (hk me fun e => by subst e; exact MapV.noobj hM _ _ _ hpc), relE_upd hR he⟩, ⟨N, hN.same (hk mc fun e => by subst e; exact MapV.noobj hN _ _ _ hpc), hC⟩, fun q hq => ?_, by rw [updA_fst]; exact h.blks, srt_upd he h.srt, fun q hq => ?_, by unfold updA; rw [List.length_map]; exact h.len, fun q hq => ?_, h.ne, h.hg, h.hme, h.hmc, fun q hq => ?_⟩
  · rcases mem_updA hq with ⟨p', hp', h1, rfl⟩ | ⟨hq, hne⟩
    · rw [key_uniq h.srt hp' hp h1]
      exact hE
    · refine (h.at_ q hq).move (hk _ fun e1 => hne ?_) (fun k cs t hk1 ht _ _ => hc k cs t hk1 ht)
      have : q = p := by
        exact blk_uniq h.blks hq hp e1
      rw [this]
  · rcases mem_updA hq with ⟨p', hp', h1, rfl⟩ | ⟨hq, _⟩
    · show e.key.size ≤ maxLen
      rw [he]; exact h.keys p hp
    · exact h.keys q hq
  · rcases mem_updA hq with ⟨p', hp', h1, rfl⟩ | ⟨hq, _⟩
    · exact ho
    · exact h.oks q hq
  · rcases mem_updA hq with ⟨p', hp', h1, rfl⟩ | ⟨hq, _⟩
    · exact h.hA p' hp'
    · exact h.hA q hq

set_option maxHeartbeats 1000000 in
set_option maxRecDepth 100000 in
theorem put_upd (k : ByteArray) (hk : k.size ≤ maxLen) (hn : n < maxLen) (hnc : nc < maxLen) (x : Vl) (hx : VOk x) (hx0 : x.kind ≠ 0) (A2 A3 A4 : Option Addr) (c2 c3 c4 : Nat) (l2 : x.l.length ≤ c2) (l3 : x.h.length ≤ c3) (l4 : x.z.length ≤ c4) (C2 : Kd.C Kd.string w A2 x.l.length x.l) (C3 : Kd.C kPair w A3 x.h.length x.h) (C4 : Kd.C kMark w A4 x.z.length x.z) (H : StoreAt w b g me mc n nc now A C) (p : Nat × Ent) (hf : fnd k (letA k A) = some p) :
    Calls Try.prog 13 #[.pointer (some ⟨g, 0, none⟩), .string k, .agg #[.int .u8 x.kind, .string x.s, .slice A2 x.l.length c2, .slice A3 x.h.length c3, .slice A4 x.z.length c4]] w fun e w' => e = .returned (.tuple #[]) ∧ Aside0 (StoreAt w' b g me mc n (nc + 1) now (updA k { p.2 with v := x } (letA k A)) (X.bump k C)) ∧ Aside0 (Kp (fun i => i = me ∨ i = mc ∨ i = p.1) w w') := by
  obtain ⟨pe, pk, px, pd, pp⟩ := p
  obtain ⟨kd, s, l, h, z⟩ := x
  simp only at *
  have hk0 : (kd == 0) = false := by simpa using hx0
  have HX := Aside0.mk hx0
  clear hx0
  obtain ⟨w0, hw0⟩ : ∃ w0, w.alloc (.cells #[.int .u8 kd, .string s, .slice A2 l.length c2, .slice A3 h.length c3, .slice A4 z.length c4] 26) = w0 := ⟨_, rfl⟩
  have hb0 : w0.heap[w.heap.size]? = some (.cells #[.int .u8 kd, .string s, .slice A2 l.length c2, .slice A3 h.length c3, .slice A4 z.length c4] 26 (0, 0)) := by rw [← hw0]; have := heap_alloc_new w (.cells #[.int .u8 kd, .string s, .slice A2 l.length c2, .slice A3 h.length c3, .slice A4 z.length c4] 26); simpa using this
  have HB0 := Aside0.mk (show Below w.heap.size w w0 by rw [← hw0]; exact (Below.refl _ _).alloc (Nat.le_refl _) _)
  have HH := Aside0.mk (H.below HB0.out)
  have HL0 := Aside0.mk H.lt
  have HS0 := Aside0.mk HB0.out.size
  have HZ := Aside0.mk hb0
  clear H hb0
  have F := Aside0.mk (find_any k hk HH.out)
  rw [hf] at F
  simp only [ptrOf] at F
  have HL := Aside0.mk (And.intro l2 (And.intro l3 l4))
  have HC := Aside0.mk (And.intro C2 (And.intro C3 C4))
  have HF := Aside0.mk hf
  have hvo := Aside0.mk (own_f hx)
  have HO := Aside0.mk hx
  simp only at hvo
  clear l2 l3 l4 C2 C3 C4 hf hx
  go_enter Try.func13, Try.ntmps13
  go_wp2_with fail
  refine F.out.mono ?_
  rintro e w1 ⟨rfl, H1, K1⟩
  have HK := Aside0.mk ((Kp.of_below (S := (· = me)) HB0.out).trans K1.out)
  have HZ1 := Aside0.mk ((K1.out.block w.heap.size (pwlt HZ.out) (by have := HL0.out; omega)).trans HZ.out)
  have z0 : w1.cell? ⟨w.heap.size, 0, none⟩ = some (.int .u8 kd) := by simp [World.cell?, HZ1.out]
  have z1 : w1.cell? ⟨w.heap.size, 1, none⟩ = some (.string s) := by simp [World.cell?, HZ1.out]
  have z2 : w1.cell? ⟨w.heap.size, 2, none⟩ = some (.slice A2 l.length c2) := by simp [World.cell?, HZ1.out]
  have z3 : w1.cell? ⟨w.heap.size, 3, none⟩ = some (.slice A3 h.length c3) := by simp [World.cell?, HZ1.out]
  have z4 : w1.cell? ⟨w.heap.size, 4, none⟩ = some (.slice A4 z.length c4) := by simp [World.cell?, HZ1.out]
  go_wp2_with fail
  have HC1 := Aside0.mk (And.intro (C_kept (w1 := w1) (Kd.C_below HC.out.1 HB0.out) (cells_kept HH.out K1.out)) (And.intro (C_kept (w1 := w1) (Kd.C_below HC.out.2.1 HB0.out) (cells_kept HH.out K1.out)) (C_kept (w1 := w1) (Kd.C_below HC.out.2.2 HB0.out) (cells_kept HH.out K1.out))))
  have hkey := key9 hk
  refine (value_Own.calls kd s _ _ l _ _ h _ _ z kd s l h z _ HC1.out.1 HL.out.1 HC1.out.2.1 HL.out.2.1 HC1.out.2.2 HL.out.2.2 hvo.out).mono ?_
  rintro e w2 ⟨v2, v3, v4, rfl, R2, R3, R4, B2⟩
  obtain ⟨E2, e2, rfl⟩ := Kd.R_slice R2
  obtain ⟨E3, e3, rfl⟩ := Kd.R_slice R3
  obtain ⟨E4, e4, rfl⟩ := Kd.R_slice R4
  have HB2 := Aside0.mk B2
  have HR := Aside0.mk (And.intro R2 (And.intro R3 R4))
  have H2 := Aside0.mk (H1.out.below B2)
  clear R2 R3 R4 B2 z0 z1 z2 z3 z4
  have HP := Aside0.mk (fnd_some HF.out)
  obtain ⟨a2, a3, a4, hent, _⟩ := H2.out.at_ _ HP.out.1
  simp only at hent
  have y0 : w2.cell? ⟨pe, 0, none⟩ = some (.int .u8 px.kind) := by simp [World.cell?, hent]
  have y1 : w2.cell? ⟨pe, 1, none⟩ = some (.string px.s) := by simp [World.cell?, hent]
  have y2 : w2.cell? ⟨pe, 2, none⟩ = some a2 := by simp [World.cell?, hent]
  have y3 : w2.cell? ⟨pe, 3, none⟩ = some a3 := by simp [World.cell?, hent]
  have y4 : w2.cell? ⟨pe, 4, none⟩ = some a4 := by simp [World.cell?, hent]
  have f0 : w2.frozen? ⟨pe, 0, none⟩ = false := by simp [World.frozen?, hent]
  have f1 : w2.frozen? ⟨pe, 1, none⟩ = false := by simp [World.frozen?, hent]
  have f2 : w2.frozen? ⟨pe, 2, none⟩ = false := by simp [World.frozen?, hent]
  have f3 : w2.frozen? ⟨pe, 3, none⟩ = false := by simp [World.frozen?, hent]
  have f4 : w2.frozen? ⟨pe, 4, none⟩ = false := by simp [World.frozen?, hent]
  obtain ⟨w3, hw3⟩ : ∃ w3, (((((w2.setCell ⟨pe, 0, none⟩ (.int .u8 kd)).setCell ⟨pe, 1, none⟩ (.string s)).setCell ⟨pe, 2, none⟩ (.slice E2 l.length e2)).setCell ⟨pe, 3, none⟩ (.slice E3 h.length e3)).setCell ⟨pe, 4, none⟩ (.slice E4 z.length e4)) = w3 := ⟨_, rfl⟩
  have hent3 : w3.heap[pe]? = some (.cells #[.int .u8 kd, .string s, .slice E2 l.length e2, .slice E3 h.length e3, .slice E4 z.length e4, .int .i64 pd, .bool pp] 74 (0, 0)) := by
    rw [← hw3]
    exact blk_put (blk_put (blk_put (blk_put (blk_put hent 0 _ rfl) 1 _ rfl) 2 _ rfl) 3 _ rfl) 4 _ rfl
  have hoff : ∀ j, j ≠ pe → w3.heap[j]? = w2.heap[j]? := by rw [← hw3]; exact off5 _ _ _ _ _ _ _
  have HE := Aside0.mk (show EntAt w3 b pe ⟨pk, ⟨kd, s, l, h, z⟩, pd, pp⟩ from by
    have hl := H1.out.lt
    have hg := H1.out.hg
    have hbw : b ≤ w1.heap.size := by omega
    refine ⟨_, _, _, hent3, ?_⟩
    have hR : RowsAt w2 b ⟨kd, s, l, h, z⟩ (.slice E2 l.length e2) (.slice E3 h.length e3) (.slice E4 z.length e4) := ⟨Kd.R_lower HR.out.1 hbw, Kd.R_lower HR.out.2.1 hbw, Kd.R_lower HR.out.2.2 hbw⟩
    refine hR.move fun j cs t hk ht _ _ => hoff j ?_
    rintro rfl
    rw [hent] at hk
    injection hk with hk
    injection hk with _ hk _
    exact ht hk.symm)
  have HS3 := Aside0.mk (H2.out.upd HP.out.1 (e := ⟨pk, ⟨kd, s, l, h, z⟩, pd, pp⟩) rfl HE.out HO.out hoff)
  have HKP := Aside0.mk HP.out.2
  have HK3 := Aside0.mk (show Kp (fun i => i = me ∨ i = mc ∨ i = pe) w w3 by
    rw [← hw3]
    exact (((((((HK.out.mono (T := fun i => i = me ∨ i = mc ∨ i = pe) fun _ h => .inl h).trans (Kp.of_below HB2.out)).setCell (.inl (.inr (.inr rfl))) _).setCell (.inl (.inr (.inr rfl))) _).setCell (.inl (.inr (.inr rfl))) _).setCell (.inl (.inr (.inr rfl))) _).setCell (.inl (.inr (.inr rfl))) _))
  clear hent hent3 hoff
  have d2 : w3.cell? ⟨g, 2, none⟩ = some (.map (some mc)) := by simp [World.cell?, HS3.out.top]
  obtain ⟨N, hN, hC⟩ := HS3.out.cnts
  have hlook := (hN.lookup law9 Try.underlying60 (zeroI w3) hkey).1
  have e : (N (nm k)).getD (.int .i64 0) = .int .i64 (C k) := by
    cases h : N (nm k) with
    | none => rw [hC.1 _ h]; rfl
    | some v => rw [hC.2 _ _ h]; rfl
  rw [e] at hlook
  obtain ⟨w5, hrun5, hN5, ht5⟩ := hN.store law9 Try.underlying60 hnc (.int .i64 (wrap64 (C k + 1))) hkey
  have HS5 := Aside0.mk (HS3.out.bump k hC hN5 ht5)
  have HK5 := Aside0.mk (HK3.out.turned ht5 (.inl (.inr (.inl rfl))))
  clear hN hC e hN5 ht5 hkey
  go_wp2
  go_end0
  have hkk : pk = k := HKP.out
  subst hkk
  exact ⟨rfl, HS5, HK5⟩
end
end Go.Proofs.Ytmhdkjihhdljlaa.X
