/- The store without its blocks. -/
import Derived.Test.YtmhdkjihhdljlaaStPutU
set_option linter.unusedVariables false
set_option linter.unusedSimpArgs false
namespace Go.Proofs.Ytmhdkjihhdljlaa.X
open Go.RowKit Go.Maps Go.ChangeMaps Go.MapKept Go.Proofs.Ytmhdkjihhdljlaa.Mv Go.Proofs.YtmhdkjihhdljlaaW.PrintWords
theorem drop_upd (k : ByteArray) {e : Ent} (he : e.key = k) (A : List (Nat × Ent)) : dropA k (updA k e A) = dropA k A := by
  unfold dropA updA
  induction A with
  | nil => rfl
  | cons p A ih =>
    rw [List.map_cons]
    by_cases h : p.2.key = k
    · rw [if_pos h, List.filter_cons_of_neg (by simp [he]), List.filter_cons_of_neg (by simp [h]), ih]
    · rw [if_neg h, List.filter_cons_of_pos (by simp [h]), List.filter_cons_of_pos (by simp [h]), ih]
/-- What SetDue leaves of a key that is there. -/
def setA (k : ByteArray) (x : Ent) (now at_ : Int) (on : Bool) (A : List (Nat × Ent)) : List (Nat × Ent) :=
  if on then (if at_ ≤ now then dropA k A else updA k { x with due := at_ } A) else updA k { x with due := 0 } A
section
variable {w w1 : World} {b g me mc n nc : Nat} {now : Int} {A : List (Nat × Ent)} {C : ByteArray → Int}
set_option maxHeartbeats 1000000 in
set_option maxRecDepth 100000 in
theorem set_none (k : ByteArray) (hk : k.size ≤ maxLen) (at_ : Int) (on : Bool) (H : StoreAt w b g me mc n nc now A C) (hf : fnd k (letA k A) = none) :
    Calls Try.prog 12 #[.pointer (some ⟨g, 0, none⟩), .string k, .int .i64 at_, .bool on] w fun e w' => e = .returned (.bool false) ∧ Aside0 (StoreAt w' b g me mc n nc now (letA k A) C) ∧ Aside0 (Kp (· = me) w w') := by
  have F := Aside0.mk (find_any k hk H)
  rw [hf] at F
  simp only [ptrOf] at F
  clear H hf
  go_enter Try.func12, Try.ntmps12
  go_wp2_with fail
  refine F.out.mono ?_
  rintro e w1 ⟨rfl, H1, K1⟩
  go_wp2
  go_ret
  exact ⟨rfl, H1, K1⟩
set_option maxHeartbeats 1000000 in
set_option maxRecDepth 100000 in
theorem set_some (k : ByteArray) (hk : k.size ≤ maxLen) (hnc : nc < maxLen) (at_ : Int) (on : Bool) (H : StoreAt w b g me mc n nc now A C) (p : Nat × Ent) (hf : fnd k (letA k A) = some p) :
    Calls Try.prog 12 #[.pointer (some ⟨g, 0, none⟩), .string k, .int .i64 at_, .bool on] w fun e w' => e = .returned (.bool true) ∧ Aside0 (StoreAt w' b g me mc n (nc + 1) now (setA k p.2 now at_ on (letA k A)) (X.bump k C)) ∧ Aside0 (Kp (fun i => i = me ∨ i = mc ∨ i = p.1) w w') := by
  have F := Aside0.mk (find_any k hk H)
  rw [hf] at F
  have HP := Aside0.mk (fnd_some hf)
  obtain ⟨pe, pk, x, pd, pp⟩ := p
  obtain ⟨kd, s, l, h, z⟩ := x
  simp only [ptrOf] at F
  clear H hf
  go_enter Try.func12, Try.ntmps12
  go_wp2_with fail
  refine F.out.mono ?_
  rintro e w1 ⟨rfl, H1, K1⟩
  have hkey := key9 hk
  have d2 : w1.cell? ⟨g, 2, none⟩ = some (.map (some mc)) := by simp [World.cell?, H1.out.top]
  obtain ⟨N, hN, hC⟩ := H1.out.cnts
  have hlook := (hN.lookup law9 Try.underlying60 (zeroI w1) hkey).1
  have e : (N (nm k)).getD (.int .i64 0) = .int .i64 (C k) := by
    cases h : N (nm k) with
    | none => rw [hC.1 _ h]; rfl
    | some v => rw [hC.2 _ _ h]; rfl
  rw [e] at hlook
  obtain ⟨w2, hrun2, hN2, ht2⟩ := hN.store law9 Try.underlying60 hnc (.int .i64 (wrap64 (C k + 1))) hkey
  have HS2 := Aside0.mk (H1.out.bump k hC hN2 ht2)
  have HK2 := Aside0.mk ((K1.out.mono (T := fun i => i = me ∨ i = mc ∨ i = pe) fun _ h => .inl h).turned ht2 (.inl (.inr (.inl rfl))))
  clear hN hC e hN2 ht2
  obtain ⟨v2, v3, v4, hent, hrows⟩ := HS2.out.at_ _ HP.out.1
  have HR := Aside0.mk hrows
  simp only at hent
  have y5 : w2.cell? ⟨pe, 5, none⟩ = some (.int .i64 pd) := by simp [World.cell?, hent]
  have f5 : w2.frozen? ⟨pe, 5, none⟩ = false := by simp [World.frozen?, hent]
  obtain ⟨w3, hw3⟩ : ∃ w3, w2.setCell ⟨pe, 5, none⟩ (.int .i64 0) = w3 := ⟨_, rfl⟩
  have hent3 : w3.heap[pe]? = some (.cells #[.int .u8 kd, .string s, v2, v3, v4, .int .i64 0, .bool pp] 74 (0, 0)) := by rw [← hw3]; exact blk_put hent 5 _ rfl
  have hoff : ∀ j, j ≠ pe → w3.heap[j]? = w2.heap[j]? := fun j hj => by rw [← hw3]; exact Below.heap_setCell _ _ _ _ hj
  have hrow : ∀ (w4 : World), (∀ j, j ≠ pe → w4.heap[j]? = w2.heap[j]?) → RowsAt w4 b ⟨kd, s, l, h, z⟩ v2 v3 v4 := fun w4 ho => HR.out.move fun j cs t hk ht _ _ => ho j (by
    rintro rfl
    rw [hent] at hk
    injection hk with hk
    injection hk with _ hk _
    exact ht hk.symm)
  have HS3 := Aside0.mk (HS2.out.upd HP.out.1 (e := ⟨pk, ⟨kd, s, l, h, z⟩, 0, pp⟩) rfl ⟨_, _, _, hent3, hrow w3 hoff⟩ (HS2.out.oks _ HP.out.1) hoff)
  have HK3 := Aside0.mk (show Kp (fun i => i = me ∨ i = mc ∨ i = pe) w w3 by rw [← hw3]; exact HK2.out.setCell (.inl (.inr (.inr rfl))) _)
  have HKP := Aside0.mk HP.out.2
  have hkk : pk = k := HKP.out
  subst hkk
  have c0 : w3.cell? ⟨g, 0, none⟩ = some (.int .i64 now) := by simp [World.cell?, HS3.out.top]
  cases on with
  | false =>
    have e5 : setA pk ⟨pk, ⟨kd, s, l, h, z⟩, pd, pp⟩ now at_ false (letA pk A) = updA pk ⟨pk, ⟨kd, s, l, h, z⟩, 0, pp⟩ (letA pk A) := rfl
    clear hent hent3 hoff hrow hrows hkey
    go_wp2
    go_ret
    exact ⟨rfl, HS3, HK3⟩
  | true =>
    by_cases hat : at_ ≤ now
    · have hat' : decide (at_ ≤ now) = true := by simpa using hat
      have E5 := Aside0.mk (show setA pk ⟨pk, ⟨kd, s, l, h, z⟩, pd, pp⟩ now at_ true (letA pk A) = dropA pk (updA pk ⟨pk, ⟨kd, s, l, h, z⟩, 0, pp⟩ (letA pk A)) by rw [drop_upd pk (by rfl)]; simp [setA, hat])
      have d1 : w3.cell? ⟨g, 1, none⟩ = some (.map (some me)) := by simp [World.cell?, HS3.out.top]
      obtain ⟨M, hM, hR⟩ := HS3.out.ents
      obtain ⟨w4, hrun, hM4, ht4⟩ := hM.drop law9 Try.underlying59 hkey 0
      have HS4 := Aside0.mk (HS3.out.drop pk hR hM4 ht4)
      have HK4 := Aside0.mk (HK3.out.turned ht4 (.inl (.inl rfl)))
      clear hent hent3 hoff hrow hrows hkey hM hR hM4 ht4 hat
      go_wp2
      go_ret
      rw [E5.out]
      exact ⟨rfl, HS4, HK4⟩
    · have hat' : decide (at_ ≤ now) = false := by simpa using hat
      have E5 := Aside0.mk (show setA pk ⟨pk, ⟨kd, s, l, h, z⟩, pd, pp⟩ now at_ true (letA pk A) = updA pk ⟨pk, ⟨kd, s, l, h, z⟩, at_, pp⟩ (letA pk A) by simp [setA, hat])
      have y5' : w3.cell? ⟨pe, 5, none⟩ = some (.int .i64 0) := by simp [World.cell?, hent3]
      have f5' : w3.frozen? ⟨pe, 5, none⟩ = false := by simp [World.frozen?, hent3]
      obtain ⟨w4, hw4⟩ : ∃ w4, w3.setCell ⟨pe, 5, none⟩ (.int .i64 at_) = w4 := ⟨_, rfl⟩
      have hent4 : w4.heap[pe]? = some (.cells #[.int .u8 kd, .string s, v2, v3, v4, .int .i64 at_, .bool pp] 74 (0, 0)) := by rw [← hw4]; exact blk_put hent3 5 _ rfl
      have hoff4 : ∀ j, j ≠ pe → w4.heap[j]? = w2.heap[j]? := fun j hj => by rw [← hw4, Below.heap_setCell _ _ _ _ hj]; exact hoff j hj
      have HS4 := Aside0.mk (HS2.out.upd HP.out.1 (e := ⟨pk, ⟨kd, s, l, h, z⟩, at_, pp⟩) rfl ⟨_, _, _, hent4, hrow w4 hoff4⟩ (HS2.out.oks _ HP.out.1) hoff4)
      have HK4 := Aside0.mk (show Kp (fun i => i = me ∨ i = mc ∨ i = pe) w w4 by rw [← hw4]; exact HK3.out.setCell (.inl (.inr (.inr rfl))) _)
      clear hent hent3 hent4 hoff hoff4 hrow hrows hkey hat
      go_wp2
      go_ret
      rw [E5.out]
      exact ⟨rfl, HS4, HK4⟩
end
end Go.Proofs.Ytmhdkjihhdljlaa.X
namespace Go.Proofs.Ytmhdkjihhdljlaa.X
open Go.RowKit Go.Maps Go.ChangeMaps Go.MapKept Go.Proofs.Ytmhdkjihhdljlaa.Mv Go.Proofs.YtmhdkjihhdljlaaW.PrintWords Go.Proofs.YtmhdkjihhdljlaaW.PrintLast Go.Proofs.YtmhdkjihhdljlaaW.PrintMore
def dueNow (now : Int) (e : Ent) : Bool := decide (0 < e.due) && (decide (e.due ≤ now) && !e.past)
def tick1 (now : Int) (e : Ent) : Ent := if dueNow now e then { e with past := true } else e
def lst : Int := 1099511627776
def timeU (now n : Int) : Int := min (now + min (max n 0) lst) lst
/-- Those that are left are as they were. -/
def tickA (now : Int) (left : Lit → Bool) (A : List (Nat × Ent)) : List (Nat × Ent) := A.map fun p => if left (nm p.2.key) then p else (p.1, tick1 now p.2)
def tickC (now : Int) (left : Lit → Bool) (A : List (Nat × Ent)) (C : ByteArray → Int) : ByteArray → Int := fun s =>
  match fnd s A with
  | none => C s
  | some p => if left (nm s) then C s else if dueNow now p.2 then wrap64 (C s + 1) else C s
theorem nm_same (a b : ByteArray) : (nm a).sameKey (nm b) = decide (a = b) := by
  by_cases h : a = b
  · subst h; simp [nm, Lit.sameKey]
  · have : nm a ≠ nm b := fun e => h (nm_inj e)
    simp [nm, Lit.sameKey, h] at this ⊢
    exact this
/-- One more is looked at. -/
theorem tickA_step (now : Int) (left : Lit → Bool) (A : List (Nat × Ent)) (hs : KSrt A) {p : Nat × Ent} (hp : p ∈ A) (hl : left (nm p.2.key) = true) :
    tickA now (fun x => left x && !x.sameKey (nm p.2.key)) A = updA p.2.key (tick1 now p.2) (tickA now left A) := by
  have hk1 : ∀ e : Ent, (tick1 now e).key = e.key := fun e => by unfold tick1; split <;> rfl
  unfold tickA updA
  rw [List.map_map]
  refine List.map_congr_left fun q hq => ?_
  simp only [Function.comp]
  by_cases hk : q.2.key = p.2.key
  · have := key_uniq hs hq hp hk
    subst this
    have h1 : ((nm q.2.key).sameKey (nm q.2.key)) = true := by rw [nm_same]; simp
    simp [h1, hl]
  · have h1 : ((nm q.2.key).sameKey (nm p.2.key)) = false := by rw [nm_same]; simp [hk]
    simp only [h1, Bool.not_false, Bool.and_true]
    cases left (nm q.2.key) <;> simp [hk, hk1]
theorem tickA_fnd (now : Int) (left : Lit → Bool) (A : List (Nat × Ent)) {p : Nat × Ent} (hp : p ∈ A) (hl : left (nm p.2.key) = true) : p ∈ tickA now left A := List.mem_map.2 ⟨p, hp, by rw [if_pos hl]⟩
theorem tickC_step (now : Int) (left : Lit → Bool) (A : List (Nat × Ent)) (C : ByteArray → Int) (hs : KSrt A) {p : Nat × Ent} (hp : p ∈ A) (hl : left (nm p.2.key) = true) :
    tickC now (fun x => left x && !x.sameKey (nm p.2.key)) A C = if dueNow now p.2 then bump p.2.key (tickC now left A C) else tickC now left A C := by
  funext s
  have hf := fnd_mem hs hp rfl
  by_cases hk : s = p.2.key
  · subst hk
    have h1 : ((nm p.2.key).sameKey (nm p.2.key)) = true := by rw [nm_same]; simp
    have e1 : tickC now left A C p.2.key = C p.2.key := by unfold tickC; rw [hf]; simp [hl]
    cases hd : dueNow now p.2
    · simp only [Bool.false_eq_true, if_false]
      rw [e1]
      unfold tickC
      rw [hf]
      simp [h1, hl, hd]
    · simp only [if_true, bump, e1]
      unfold tickC
      rw [hf]
      simp [h1, hl, hd]
  · have h1 : ((nm s).sameKey (nm p.2.key)) = false := by rw [nm_same]; simp [hk]
    have e1 : tickC now (fun x => left x && !x.sameKey (nm p.2.key)) A C s = tickC now left A C s := by
      unfold tickC
      cases fnd s A with
      | none => rfl
      | some q => simp [h1]
    rw [e1]
    split
    · simp [bump, hk]
    · rfl
theorem tickA_all (now : Int) (left : Lit → Bool) (A : List (Nat × Ent)) (h : ∀ p ∈ A, left (nm p.2.key) = true) : tickA now left A = A := by
  unfold tickA
  refine (List.map_congr_left fun p hp => ?_).trans (List.map_id A)
  rw [if_pos (h p hp)]; rfl
theorem tickC_all (now : Int) (left : Lit → Bool) (A : List (Nat × Ent)) (C : ByteArray → Int) (h : ∀ p ∈ A, left (nm p.2.key) = true) : tickC now left A C = C := by
  funext s
  unfold tickC
  cases hf : fnd s A with
  | none => rfl
  | some p =>
    obtain ⟨h1, h2⟩ := fnd_some hf
    have := h p h1
    rw [h2] at this
    simp [this]
theorem updA_self {k : ByteArray} {A : List (Nat × Ent)} (hs : KSrt A) {p : Nat × Ent} (hp : p ∈ A) (hk : p.2.key = k) : updA k p.2 A = A := by
  unfold updA
  refine (List.map_congr_left fun q hq => ?_).trans (List.map_id A)
  split
  · rename_i h
    rw [key_uniq hs hq hp (by rw [h, hk])]; rfl
  · rfl
section
variable {w w1 : World} {b g me mc n nc : Nat} {now : Int} {A : List (Nat × Ent)} {C : ByteArray → Int}
theorem StoreAt.time (h : StoreAt w b g me mc n nc now A C) (t : Int) : StoreAt (w.setCell ⟨g, 0, none⟩ (.int .i64 t)) b g me mc n nc t A C := by
  have hl := h.lt
  obtain ⟨M, hM, hR⟩ := h.ents
  obtain ⟨N, hN, hC⟩ := h.cnts
  have hk : ∀ k, k ≠ g → (w.setCell ⟨g, 0, none⟩ (.int .i64 t)).heap[k]? = w.heap[k]? := fun k hk => Below.heap_setCell _ _ _ _ hk
  have hc : ∀ (k : Nat) (cs1 : Array Value) (t1 : TypeId), w.heap[k]? = some (.cells cs1 t1 (0, 0)) → t1 ≠ 62 → (w.setCell ⟨g, 0, none⟩ (.int .i64 t)).heap[k]? = w.heap[k]? := by
    intro k cs1 t1 h1 ht
    refine hk k ?_
    rintro rfl
    rw [h.top] at h1
    injection h1 with h1
    injection h1 with _ h1 _
    exact ht h1.symm
  exact { h with top := blk_put h.top 0 _ rfl, ents := ⟨M, hM.same (hk me (Ne.symm hl.2.2.2.1)), hR⟩, cnts := ⟨N, hN.same (hk mc (Ne.symm hl.2.2.2.2)), hC⟩, at_ := fun p hp => (h.at_ p hp).move (by obtain ⟨_, _, _, h1, _⟩ := h.at_ p hp; exact hc _ _ _ h1 (by decide)) (fun k cs t1 hk _ ht _ => hc k cs t1 hk ht) }
theorem max2_mx (k k' : IntKind) (x y : Int) : Builtin.max2 (.int k x) (.int k' y) = pure (.int k (mx x y)) := max2_int k k' x y
theorem min2_mn (k k' : IntKind) (x y : Int) : Builtin.min2 (.int k x) (.int k' y) = pure (.int k (mn x y)) := min2_int k k' x y
/-- A range's own block is none of the store's. -/
theorem StoreAt.iter (h : StoreAt w b g me mc n nc now A C) {r n1 : Nat} {M : Lit → Option Value} {left : Lit → Bool} {cnt : Nat} (hr : RangeV Try.prog 9 w me r n1 M left cnt) (hk : ∀ k, k < w.heap.size → k ≠ r → w1.heap[k]? = w.heap[k]?) : StoreAt w1 b g me mc n nc now A C := by
  have hl := h.lt
  have hne := hr.ne
  obtain ⟨D, ⟨es, clock, since, seen, c0, h1, h2, h3, h4, h5, rest⟩, hM0⟩ := hr
  obtain ⟨M, hM, hR⟩ := h.ents
  obtain ⟨N, hN, hC⟩ := h.cnts
  have hmc : mc ≠ r := by
    rintro rfl
    obtain ⟨D, ⟨es, clock, h1, _⟩, _⟩ := hN
    rw [h5] at h1
    cases h1
  have hc : ∀ (k : Nat) (cs1 : Array Value) (t : TypeId), w.heap[k]? = some (.cells cs1 t (0, 0)) → w1.heap[k]? = w.heap[k]? := by
    intro k cs1 t h1
    refine hk k (pwlt h1) ?_
    rintro rfl
    rw [h5] at h1
    cases h1
  exact { h with top := (hc g _ _ h.top).trans h.top, ents := ⟨M, hM.same (hk me hl.2.1 (Ne.symm hne)), hR⟩, cnts := ⟨N, hN.same (hk mc hl.2.2.1 hmc), hC⟩, at_ := fun p hp => (h.at_ p hp).move (by obtain ⟨_, _, _, h1, _⟩ := h.at_ p hp; exact hc _ _ _ h1) (fun k cs t hk _ _ _ => hc k cs t hk) }
attribute [local go_sem] max_two min_two max2_mx min2_mn
def TickRel (b g me mc n nc : Nat) (t : Int) (M : Lit → Option Value) (A : List (Nat × Ent)) (C : ByteArray → Int) (S : Nat → Prop) (w w0 wr : World) : Prop :=
  ∃ left cnt nc', RangeV Try.prog 9 wr me w0.heap.size n M left cnt ∧ StoreAt wr b g me mc n nc' t (tickA t left A) (tickC t left A C) ∧ nc' + cnt ≤ nc + n ∧ Kp S w wr

set_option maxHeartbeats 1000000 in
set_option maxRecDepth 100000 in
theorem tick_any (d : Int) (hn : nc + n < maxLen) (H : StoreAt w b g me mc n nc now A C) (h0 : 0 ≤ now) (h1 : now ≤ lst) :
    Calls Try.prog 15 #[.pointer (some ⟨g, 0, none⟩), .int .i64 d] w fun e w' => e = .returned (.tuple #[]) ∧ ∃ nc', nc' ≤ nc + n ∧ Aside0 (StoreAt w' b g me mc n nc' (mn (wrap64 (now + mn (mx d 0) 1099511627776)) 1099511627776) (tickA (mn (wrap64 (now + mn (mx d 0) 1099511627776)) 1099511627776) (fun _ => false) A) (tickC (mn (wrap64 (now + mn (mx d 0) 1099511627776)) 1099511627776) (fun _ => false) A C)) ∧ Aside0 (Kp (SB g me mc A) w w') := by
  have c0 : w.cell? ⟨g, 0, none⟩ = some (.int .i64 now) := by simp [World.cell?, H.top]
  have f0 : w.frozen? ⟨g, 0, none⟩ = false := by simp [World.frozen?, H.top]
  have c1 : w.cell? ⟨g, 1, none⟩ = some (.map (some me)) := by simp [World.cell?, H.top]
  obtain ⟨T, hT⟩ : ∃ T, mn (wrap64 (now + mn (mx d 0) 1099511627776)) 1099511627776 = T := ⟨_, rfl⟩
  rw [hT]
  go_enter Try.func15, Try.ntmps15
  obtain ⟨w0, hw0⟩ : ∃ w0, w.setCell ⟨g, 0, none⟩ (.int .i64 T) = w0 := ⟨_, rfl⟩
  have H0 := Aside0.mk (show StoreAt w0 b g me mc n nc T A C by rw [← hw0]; exact H.time T)
  have HK0 := Aside0.mk (show Kp (SB g me mc A) w w0 by rw [← hw0]; exact (Kp.refl _ _).setCell (.inl (.inl rfl)) _)
  have c1' : w0.cell? ⟨g, 1, none⟩ = some (.map (some me)) := by simp [World.cell?, H0.out.top]
  obtain ⟨M, hM, hR⟩ := H0.out.ents
  have HM := Aside0.mk hM
  have HRE := Aside0.mk hR
  clear hM hR H
  go_wp2_with (first
    | (at_range; refine op_range _ rfl _ 59 rfl 9 71 law9 Try.underlying59 me n M rfl HM.out ?_; intro w1 left cnt hrg hall hcn hg0 hs0))
  go_frame
  go_loopw [4] (fun _ wr => Aside0 (TickRel b g me mc n nc T M A C (SB g me mc A) w w0 wr)) (fun _ wr => wr.rangeLeft me w0.heap.size)
  case atStart =>
    have hl : ∀ p ∈ A, left (nm p.2.key) = true := fun p hp => hall _ (by rw [HRE.out.2 p hp]; rfl)
    have hb : Below w0.heap.size w0 w1 := (Kp.of_grown (S := fun _ => False) hg0 (fun k e => by cases e)).below (fun k h => h.elim)
    exact ⟨left, cnt, nc, hrg, by rw [tickA_all T left A hl, tickC_all T left A C hl]; exact H0.out.below hb, by omega, HK0.out.trans (Kp.of_below hb)⟩
  case round =>
    clear hrg hall hcn hg0 hs0 c0 c1 c1' f0
    obtain ⟨left, cnt, nc', hrg, hst, hnc, hkp⟩ := hrel.out
    have HRG := Aside0.mk hrg
    have HST := Aside0.mk hst
    have HNC := Aside0.mk hnc
    have HKP := Aside0.mk hkp
    clear hrg hst hnc hkp hrel
    go_wp2_with (first
      | (at_next; refine op_next (α := ByteArray) (β := Nat) _ rfl _ rfl 9 law9 (fun s => .string s) (fun q => .pointer (some ⟨q, 0, none⟩)) me w0.heap.size n M left cnt ?_ ?_ rfl HRG.out ?_ ?_))
    · intro key kl hk
      obtain ⟨x, rfl, _⟩ := keyOf_string_inv Try.underlying9 hk
      exact ⟨x, rfl⟩
    · intro v kl hM
      obtain ⟨p, _, _, e⟩ := HRE.out.1 kl v hM
      exact ⟨p.1, e⟩
    · intro hc0 hl0
      go_wp2
      go_end0
      have e : left = fun _ => false := funext hl0
      subst e
      exact ⟨rfl, nc', by have := HNC.out; omega, HST, HKP⟩
    · intro x v kl w2 cnt1 hkey hlk hMk hrg1 hlt1 hg1 hs1 hen
      obtain ⟨p, hp, e1, e2⟩ := HRE.out.1 _ _ hMk
      have hv : v = p.1 := by injection e2 with e2; injection e2 with e2; injection e2
      subst hv
      have hx : x = p.2.key := by
        obtain ⟨y, ey, ek, _⟩ := keyOf_string_inv Try.underlying9 hkey
        injection ey with ey
        rw [ey]
        exact nm_inj (ek.symm.trans e1)
      subst hx
      subst e1
      have hin := tickA_fnd T left A hp hlk
      have hr0 := HKP.out.size
      have HST2 := Aside0.mk (HST.out.iter HRG.out (w1 := w2) (fun k hk hne => hg1.block k hk (by simpa using fun e => hne e)))
      have HKP2 := Aside0.mk (HKP.out.trans' (T := fun k => k = w0.heap.size) (Kp.of_grown hg1 fun k e => by cases e; exact .inl rfl) fun i e => .inr (by rw [e, ← hw0]; simp))
      have HSA := Aside0.mk (tickA_step T left A H0.out.srt hp hlk)
      have HSC := Aside0.mk (tickC_step T left A C H0.out.srt hp hlk)
      have HRG1 := Aside0.mk hrg1
      have HLT := Aside0.mk hlt1
      have HP := Aside0.mk hp
      have HIN := Aside0.mk hin
      obtain ⟨v2, v3, v4, hrows, e0, e1, e2, e3, e4, e5, e6⟩ := HST2.out.cells hin
      have c0 : w2.cell? ⟨g, 0, none⟩ = some (.int .i64 T) := by simp [World.cell?, HST2.out.top]
      obtain ⟨pe, pk, x, pd, pp⟩ := p
      simp only at hen e5 e6
      clear hkey hlk hMk hrg1 hlt1 hg1 hs1 hin hp e0 e1 e2 e3 e4 hrows
      have HST2 := Aside0.mk (show StoreAt w2.drew b g me mc n nc' T (tickA T left A) (tickC T left A C) from HST2.out.below (Below.refl _ _).drew)
      have HKP2 := Aside0.mk (show Kp (SB g me mc A) w w2.drew from HKP2.out.drew)
      have HRG1 := Aside0.mk (HRG1.out.same (w1 := w2.drew) rfl rfl)
      have n5 : ∀ n, (w2.drewN n).cell? ⟨pe, 5, none⟩ = some (.int .i64 pd) := fun _ => e5
      have n6 : ∀ n, (w2.drewN n).cell? ⟨pe, 6, none⟩ = some (.bool pp) := fun _ => e6
      have n0 : ∀ n, (w2.drewN n).cell? ⟨g, 0, none⟩ = some (.int .i64 T) := fun _ => c0
      have f5 : w2.drew.cell? ⟨pe, 5, none⟩ = some (.int .i64 pd) := e5
      have g6 : w2.drew.cell? ⟨pe, 6, none⟩ = some (.bool pp) := e6
      have g0 : w2.drew.cell? ⟨g, 0, none⟩ = some (.int .i64 T) := c0
      by_cases hd : dueNow T ⟨pk, x, pd, pp⟩ = true
      · have HD := Aside0.mk hd
        have hd3 : decide (0 < pd) = true ∧ decide (pd ≤ T) = true ∧ pp = false := by simpa [dueNow] using hd
        obtain ⟨q1, q2, rfl⟩ := hd3
        clear hd
        obtain ⟨a2, a3, a4, hent, hrows⟩ := HST2.out.at_ _ HIN.out
        simp only at hent
        have f6 : w2.drew.frozen? ⟨pe, 6, none⟩ = false := by simp [World.frozen?, hent]
        obtain ⟨w3, hw3⟩ : ∃ w3, w2.drew.setCell ⟨pe, 6, none⟩ (.bool true) = w3 := ⟨_, rfl⟩
        have hent3 : w3.heap[pe]? = some (.cells #[.int .u8 x.kind, .string x.s, a2, a3, a4, .int .i64 pd, .bool true] 74 (0, 0)) := by rw [← hw3]; exact blk_put hent 6 _ rfl
        have hoff : ∀ j, j ≠ pe → w3.heap[j]? = w2.drew.heap[j]? := fun j hj => by rw [← hw3]; exact Below.heap_setCell _ _ _ _ hj
        have HS3 := Aside0.mk (HST2.out.upd HIN.out (e := ⟨pk, x, pd, true⟩) rfl ⟨_, _, _, hent3, hrows.move fun j cs t hk ht _ _ => hoff j (by
          rintro rfl
          rw [hent] at hk
          injection hk with hk
          injection hk with _ hk _
          exact ht hk.symm)⟩ (HST2.out.oks _ HIN.out) hoff)
        have HPE := Aside0.mk (show SB g me mc A pe from .inr (.inr (.inr ⟨_, HP.out, rfl⟩)))
        have HK3 := Aside0.mk (show Kp (SB g me mc A) w w3 by rw [← hw3]; exact HKP2.out.setCell (.inl HPE.out) _)
        have hcell := HRG1.out.nocell e5
        have hmepe : me ≠ pe := by
          rintro rfl
          exact MapV.noobj HRG1.out.map _ _ _ hent
        have HRG3 := Aside0.mk (HRG1.out.same (w1 := w3) (hoff me hmepe) (hoff _ (Ne.symm hcell)))
        have hkey := key9 (HST2.out.keys _ HIN.out)
        simp only at hkey
        have d2 : w3.cell? ⟨g, 2, none⟩ = some (.map (some mc)) := by simp [World.cell?, HS3.out.top]
        obtain ⟨N, hN, hC⟩ := HS3.out.cnts
        have hlook := (hN.lookup law9 Try.underlying60 (zeroI w3) hkey).1
        obtain ⟨c, hc⟩ : ∃ c, tickC T left A C pk = c := ⟨_, rfl⟩
        have e : (N (nm pk)).getD (.int .i64 0) = .int .i64 c := by
          rw [← hc]
          cases h : N (nm pk) with
          | none => rw [hC.1 _ h]; rfl
          | some v => rw [hC.2 _ _ h]; rfl
        rw [e] at hlook
        obtain ⟨w4, hrun4, hN4, ht4⟩ := hN.store law9 Try.underlying60 (by have := HNC.out; have := HLT.out; omega) (.int .i64 (wrap64 (c + 1))) hkey
        have HS4 := Aside0.mk (HS3.out.bump pk hC (by rw [hc]; exact hN4) ht4)
        have HK4 := Aside0.mk (HK3.out.turned ht4 (.inl (.inr (.inr (.inl rfl)))))
        have hmr : w0.heap.size ≠ mc := by
          rintro rfl
          have h1 := H0.out.lt
          omega
        have HRG4 := Aside0.mk (HRG3.out.same (w1 := w4) (turned_block ht4 H0.out.ne) (turned_block ht4 hmr))
        have HREL : TickRel b g me mc n nc T M A C (SB g me mc A) w w0 w4 := by
          refine ⟨_, cnt1, nc' + 1, HRG4.out, ?_, by have := HNC.out; have := HLT.out; omega, HK4.out⟩
          rw [HSA.out, HSC.out, if_pos HD.out]
          have : tick1 T ⟨pk, x, pd, false⟩ = ⟨pk, x, pd, true⟩ := by unfold tick1; rw [HD.out]; rfl
          simp only [this]
          exact HS4.out
        have HRL := Aside0.mk HREL
        have HME := Aside0.mk (show w4.rangeLeft me w0.heap.size < wr.rangeLeft me w0.heap.size by rw [HRG4.out.left_eq, HRG.out.left_eq]; exact HLT.out)
        clear HREL hent hent3 hoff hrows hN hC e hN4 ht4 hkey hcell hmepe hmr hc
        go_wp2
        go_region_held3 (fun wz => wz.cell? ⟨pe, 5, none⟩ = some (.int .i64 pd) ∧ wz.cell? ⟨pe, 6, none⟩ = some (.bool false) ∧ wz.cell? ⟨g, 0, none⟩ = some (.int .i64 T)) (first | exact ⟨e5, e6, c0⟩ | exact ⟨f5, g6, g0⟩) (fail)
        all_goals go_wp2
        go_roundw
        case rel => exact HRL
        case measure => exact HME.out
      · have hd : dueNow T ⟨pk, x, pd, pp⟩ = false := by simpa using hd
        have HD := Aside0.mk hd
        have q1 : decide (0 < pd) = true ∨ decide (0 < pd) = false := by cases decide (0 < pd) <;> simp
        have q2 : decide (pd ≤ T) = true ∨ decide (pd ≤ T) = false := by cases decide (pd ≤ T) <;> simp
        simp only [dueNow] at hd
        have HREL : ∀ j, TickRel b g me mc n nc T M A C (SB g me mc A) w w0 (w2.drewN j) := by
          intro j
          refine ⟨_, cnt1, nc', HRG1.out.same (w1 := w2.drewN j) rfl rfl, ?_, by have := HNC.out; have := HLT.out; omega, ⟨HKP2.out.os, HKP2.out.tape, HKP2.out.output, HKP2.out.size, HKP2.out.block⟩⟩
          rw [HSA.out, HSC.out, if_neg (by rw [HD.out]; simp)]
          have : tick1 T ⟨pk, x, pd, pp⟩ = ⟨pk, x, pd, pp⟩ := by unfold tick1; rw [HD.out]; rfl
          simp only [this]
          rw [updA_self (p := (pe, ⟨pk, x, pd, pp⟩)) HST2.out.srt HIN.out rfl]
          exact HST2.out.below (w1 := w2.drewN j) ⟨rfl, rfl, rfl, Nat.le_refl _, fun _ _ => rfl⟩
        have HRL := Aside0.mk HREL
        have HME := Aside0.mk (show w2.drew.rangeLeft me w0.heap.size < wr.rangeLeft me w0.heap.size by rw [HRG1.out.left_eq, HRG.out.left_eq]; exact HLT.out)
        clear HREL
        rcases q1 with q1 | q1
        · rcases q2 with q2 | q2
          · rw [q1, q2] at hd
            have hpp : pp = true := by simpa using hd
            subst hpp
            clear hd
            go_wp2
            go_quiet (fail)
            all_goals go_wp2
            go_roundw
            case rel => exact ⟨HRL.out _⟩
            case measure => exact HME.out
          · clear hd
            go_wp2
            go_quiet (fail)
            all_goals go_wp2
            go_roundw
            case rel => exact ⟨HRL.out _⟩
            case measure => exact HME.out
        · clear hd
          go_wp2
          go_quiet (fail)
          all_goals go_wp2
          go_roundw
          case rel => exact ⟨HRL.out _⟩
          case measure => exact HME.out
end
end Go.Proofs.Ytmhdkjihhdljlaa.X
namespace Go.Proofs.Ytmhdkjihhdljlaa.X
open Go.RowKit Go.Maps Go.ChangeMaps Go.MapKept Go.Proofs.Ytmhdkjihhdljlaa.Mv Go.Proofs.YtmhdkjihhdljlaaW.PrintWords
theorem card_rel {M : Lit → Option Value} {A : List (Nat × Ent)} (h : RelE M A) (hs : KSrt A) : Card M A.length := by
  refine ⟨A.map fun p => nm p.2.key, List.pairwise_map.2 (hs.imp fun {p q} hl e => ?_), fun x => ?_, List.length_map _⟩
  · rw [nm_inj e] at hl
    exact List.lt_irrefl _ hl
  · constructor
    · intro hx
      obtain ⟨p, hp, rfl⟩ := List.mem_map.1 hx
      rw [h.2 p hp]; rfl
    · intro hx
      cases hm : M x with
      | none => rw [hm] at hx; cases hx
      | some v =>
        obtain ⟨p, hp, e, _⟩ := h.1 x v hm
        exact List.mem_map.2 ⟨p, hp, e.symm⟩
section
variable {w w1 : World} {b g me mc n nc : Nat} {now : Int} {A : List (Nat × Ent)} {C : ByteArray → Int}
set_option maxHeartbeats 1000000 in
theorem held_any (H : StoreAt w b g me mc n nc now A C) :
    Calls Try.prog 33 #[.pointer (some ⟨g, 0, none⟩)] w fun e w' => e = .returned (.int .i64 A.length) ∧ w' = w := by
  obtain ⟨M, hM, hR⟩ := H.ents
  have c1 : w.cell? ⟨g, 1, none⟩ = some (.map (some me)) := by simp [World.cell?, H.top]
  obtain ⟨c, hc, _, hrun⟩ := hM.len law9 Try.underlying59
  have hcu := Card.uniq hc (card_rel hR H.srt)
  subst hcu
  have hrun' := hrun 3
  clear hM hR H hc hrun
  go_enter Try.func33, Try.ntmps33
  go_wp2
  go_ret
  exact ⟨rfl, rfl⟩
end
end Go.Proofs.Ytmhdkjihhdljlaa.X
namespace Go.Proofs.Ytmhdkjihhdljlaa.X
open Go.RowKit Go.Maps Go.ChangeMaps Go.MapKept Go.Proofs.Ytmhdkjihhdljlaa.Mv Go.Proofs.YtmhdkjihhdljlaaW.PrintWords
/-- Those that are past are let go of, but those that are left. -/
def purgeA (left : Lit → Bool) (A : List (Nat × Ent)) : List (Nat × Ent) := A.filter fun p => left (nm p.2.key) || !p.2.past
theorem purgeA_all (left : Lit → Bool) (A : List (Nat × Ent)) (h : ∀ p ∈ A, left (nm p.2.key) = true) : purgeA left A = A := List.filter_eq_self.2 fun p hp => by simp [h p hp]
theorem purgeA_step (left : Lit → Bool) (A : List (Nat × Ent)) (hs : KSrt A) {p : Nat × Ent} (hp : p ∈ A) (hl : left (nm p.2.key) = true) :
    purgeA (fun x => left x && !x.sameKey (nm p.2.key)) A = if p.2.past then dropA p.2.key (purgeA left A) else purgeA left A := by
  unfold purgeA dropA
  cases hpp : p.2.past with
  | true =>
    rw [if_pos rfl, List.filter_filter]
    refine List.filter_congr fun q hq => ?_
    by_cases hk : q.2.key = p.2.key
    · have := key_uniq hs hq hp hk
      subst this
      simp [nm_same, hpp]
    · simp [nm_same, hk]
  | false =>
    simp only [Bool.false_eq_true, if_false]
    refine List.filter_congr fun q hq => ?_
    by_cases hk : q.2.key = p.2.key
    · have := key_uniq hs hq hp hk
      subst this
      simp [nm_same, hpp]
    · simp [nm_same, hk]
section
variable {w w1 : World} {b g me mc n nc : Nat} {now : Int} {A : List (Nat × Ent)} {C : ByteArray → Int}
def PurgeRel (b g me mc n nc : Nat) (now : Int) (A : List (Nat × Ent)) (C : ByteArray → Int) (w wr : World) : Prop :=
  ∃ left cnt M, RangeV Try.prog 9 wr me w.heap.size n M left cnt ∧ RelE M (purgeA left A) ∧ StoreAt wr b g me mc n nc now (purgeA left A) C ∧ Kp (· = me) w wr
set_option maxHeartbeats 1000000 in
set_option maxRecDepth 100000 in
theorem purge_any (H : StoreAt w b g me mc n nc now A C) :
    Calls Try.prog 18 #[.pointer (some ⟨g, 0, none⟩)] w fun e w' => e = .returned (.int .i64 (wrap64 ((A.length : Int) - ((purgeA (fun _ => false) A).length : Int)))) ∧ Aside0 (StoreAt w' b g me mc n nc now (purgeA (fun _ => false) A) C) ∧ Aside0 (Kp (· = me) w w') := by
  obtain ⟨M, hM, hR⟩ := H.ents
  have c1 : w.cell? ⟨g, 1, none⟩ = some (.map (some me)) := by simp [World.cell?, H.top]
  obtain ⟨c, hc, _, hrun⟩ := hM.len law9 Try.underlying59
  have hcu := Card.uniq hc (card_rel hR H.srt)
  subst hcu
  have hrun' := hrun 3
  have HM := Aside0.mk hM
  have HRE := Aside0.mk hR
  have H0 := Aside0.mk H
  clear hM hR H hc hrun
  go_enter Try.func18, Try.ntmps18
  go_wp2_with (first
    | (at_range; refine op_range _ rfl _ 59 rfl 9 71 law9 Try.underlying59 me n M rfl HM.out ?_; intro w1 left cnt hrg hall hcn hg0 hs0))
  go_frame
  go_loopw [4] (fun _ wr => Aside0 (PurgeRel b g me mc n nc now A C w wr)) (fun _ wr => wr.rangeLeft me w.heap.size)
  case atStart =>
    have hl : ∀ p ∈ A, left (nm p.2.key) = true := fun p hp => hall _ (by rw [HRE.out.2 p hp]; rfl)
    have hb : Below w.heap.size w w1 := (Kp.of_grown (S := fun _ => False) hg0 (fun k e => by cases e)).below (fun k h => h.elim)
    exact ⟨left, cnt, M, hrg, by rw [purgeA_all left A hl]; exact HRE.out, by rw [purgeA_all left A hl]; exact H0.out.below hb, Kp.of_below hb⟩
  case round =>
    clear hrg hall hcn hg0 hs0 c1 hrun'
    obtain ⟨left, cnt, M', hrg, hre, hst, hkp⟩ := hrel.out
    have HRG := Aside0.mk hrg
    have HRR := Aside0.mk hre
    have HST := Aside0.mk hst
    have HKP := Aside0.mk hkp
    clear hrg hre hst hkp hrel
    have c1 : wr.cell? ⟨g, 1, none⟩ = some (.map (some me)) := by simp [World.cell?, HST.out.top]
    go_wp2_with (first
      | (at_next; refine op_next (α := ByteArray) (β := Nat) _ rfl _ rfl 9 law9 (fun s => .string s) (fun q => .pointer (some ⟨q, 0, none⟩)) me w.heap.size n M' left cnt ?_ ?_ rfl HRG.out ?_ ?_))
    · intro key kl hk
      obtain ⟨x, rfl, _⟩ := keyOf_string_inv Try.underlying9 hk
      exact ⟨x, rfl⟩
    · intro v kl hM
      obtain ⟨p, _, _, e⟩ := HRR.out.1 kl v hM
      exact ⟨p.1, e⟩
    · intro hc0 hl0
      have e : left = fun _ => false := funext hl0
      subst e
      obtain ⟨c, hc, _, hrun⟩ := HRG.out.map.len law9 Try.underlying59
      have hcu := Card.uniq hc (card_rel HRR.out HST.out.srt)
      subst hcu
      have hrun' := hrun 3
      clear hc hrun
      go_wp2
      go_ret
      exact ⟨rfl, HST, HKP⟩
    · intro x v kl w2 cnt1 hkey hlk hMk hrg1 hlt1 hg1 hs1 hen
      obtain ⟨p, hp0, e1, e2⟩ := HRR.out.1 _ _ hMk
      have hv : v = p.1 := by injection e2 with e2; injection e2 with e2; injection e2
      subst hv
      have hx : x = p.2.key := by
        obtain ⟨y, ey, ek, _⟩ := keyOf_string_inv Try.underlying9 hkey
        injection ey with ey
        rw [ey]
        exact nm_inj (ek.symm.trans e1)
      subst hx
      subst e1
      have hp : p ∈ A := (List.mem_filter.1 hp0).1
      have hr0 := HKP.out.size
      have HST2 := Aside0.mk (HST.out.iter HRG.out (w1 := w2) (fun k hk hne => hg1.block k hk (by simpa using fun e => hne e)))
      have HKP2 := Aside0.mk (HKP.out.trans' (T := fun k => k = w.heap.size) (Kp.of_grown hg1 fun k e => by cases e; exact .inl rfl) fun i e => .inr (by rw [e]; exact Nat.le_refl _))
      have HSA := Aside0.mk (purgeA_step left A H0.out.srt hp hlk)
      have HRG1 := Aside0.mk hrg1
      have HLT := Aside0.mk hlt1
      obtain ⟨v2, v3, v4, hrows, d0, d1, d2, d3, d4, d5, d6⟩ := HST2.out.cells hp0
      have k1 : w2.cell? ⟨g, 1, none⟩ = some (.map (some me)) := by simp [World.cell?, HST2.out.top]
      obtain ⟨pe, pk, xv, pd, pp⟩ := p
      simp only at hen d6 hkey
      clear hlk hMk hrg1 hlt1 hg1 hs1 hp hp0 d0 d1 d2 d3 d4 d5 hrows c1
      cases pp with
      | false =>
        have HRL := Aside0.mk (show PurgeRel b g me mc n nc now A C w w2 from ⟨_, cnt1, M', HRG1.out, by rw [HSA.out]; exact HRR.out, by rw [HSA.out]; exact HST2.out, HKP2.out⟩)
        have HME := Aside0.mk (show w2.rangeLeft me w.heap.size < wr.rangeLeft me w.heap.size by rw [HRG1.out.left_eq, HRG.out.left_eq]; exact HLT.out)
        clear hkey
        go_wp2
        go_roundw
        case rel => exact HRL
        case measure => exact HME.out
      | true =>
        obtain ⟨w3, cnt3, hrun, hRG3, hle3, ht3⟩ := HRG1.out.drop law9 Try.underlying59 hkey 0
        have hfun : (fun x => (left x && !x.sameKey (nm pk)) && !x.sameKey (nm pk)) = fun x => left x && !x.sameKey (nm pk) := by
          funext x; cases left x <;> cases x.sameKey (nm pk) <;> rfl
        have HRL := Aside0.mk (show PurgeRel b g me mc n nc now A C w w3 from ⟨_, cnt3, _, hfun ▸ hRG3, by rw [HSA.out]; exact relE_drop HRR.out pk, by rw [HSA.out]; exact HST2.out.drop pk HRR.out hRG3.map ht3, HKP2.out.turned ht3 (.inl rfl)⟩)
        have HME := Aside0.mk (show w3.rangeLeft me w.heap.size < wr.rangeLeft me w.heap.size by rw [hRG3.left_eq, HRG.out.left_eq]; have := HLT.out; omega)
        clear hkey hRG3 hle3 ht3 hfun
        go_wp2
        go_roundw
        case rel => exact HRL
        case measure => exact HME.out
end
end Go.Proofs.Ytmhdkjihhdljlaa.X
namespace Go.Proofs.Ytmhdkjihhdljlaa.X
def ents (A : List (Nat × Ent)) : List Ent := A.map (·.2)
def fndE (k : ByteArray) (E : List Ent) : Option Ent := E.find? fun e => decide (e.key = k)
def letE (k : ByteArray) (E : List Ent) : List Ent := E.filter fun e => !(decide (e.key = k) && e.past)
def dropE (k : ByteArray) (E : List Ent) : List Ent := E.filter fun e => decide (e.key ≠ k)
def updE (k : ByteArray) (x : Ent) (E : List Ent) : List Ent := E.map fun e => if e.key = k then x else e
def insE (x : Ent) (E : List Ent) : List Ent := E.filter (fun q => decide (q.key.data.toList < x.key.data.toList)) ++ x :: E.filter (fun q => !decide (q.key.data.toList < x.key.data.toList))
def tickE (now : Int) (E : List Ent) : List Ent := E.map (tick1 now)
def purgeE (E : List Ent) : List Ent := E.filter fun e => !e.past
theorem ents_fnd (k : ByteArray) (A : List (Nat × Ent)) : (fnd k A).map (·.2) = fndE k (ents A) := by
  unfold fnd fndE ents
  rw [List.find?_map]
  rfl
theorem ents_let (k : ByteArray) (A : List (Nat × Ent)) : ents (letA k A) = letE k (ents A) := by unfold ents letA letE; rw [List.filter_map]; rfl
theorem ents_drop (k : ByteArray) (A : List (Nat × Ent)) : ents (dropA k A) = dropE k (ents A) := by unfold ents dropA dropE; rw [List.filter_map]; rfl
theorem ents_ins (p : Nat × Ent) (A : List (Nat × Ent)) : ents (insA p A) = insE p.2 (ents A) := by unfold ents insA insE; rw [List.map_append, List.map_cons, List.filter_map, List.filter_map]; rfl
theorem ents_upd (k : ByteArray) (x : Ent) (A : List (Nat × Ent)) : ents (updA k x A) = updE k x (ents A) := by
  unfold ents updA updE
  rw [List.map_map, List.map_map]
  refine List.map_congr_left fun p _ => ?_
  simp only [Function.comp]
  split <;> rfl
theorem ents_tick (now : Int) (A : List (Nat × Ent)) : ents (tickA now (fun _ => false) A) = tickE now (ents A) := by
  unfold ents tickA tickE
  rw [List.map_map, List.map_map]
  refine List.map_congr_left fun p _ => ?_
  simp
theorem ents_purge (A : List (Nat × Ent)) : ents (purgeA (fun _ => false) A) = purgeE (ents A) := by
  unfold ents purgeA purgeE
  rw [List.filter_map]
  congr 1
end Go.Proofs.Ytmhdkjihhdljlaa.X
