/- The document's numbers, letters and words (package ref01), at texts of up to 1000 bytes. -/
import Derived.Test.YtencimfeipglaaaDoorPTxt
import Derived.Test.YtencimfeipglaaaDoorXx3
import Derived.Test.YtencimfeipglaaaDoorXx10
import Derived.Test.YtencimfeipglaaaDoorXx10
import Derived.Test.YtencimfeipglaaaDoorWNEv
set_option linter.unusedVariables false
set_option linter.unusedSimpArgs false
namespace Go.Proofs.YtencimfeipglaaaDoor.X
open Go.RowKit Go.Lib Go.Proofs.YtencimfeipglaaaDoorW.PrintWords

theorem text_f (n : Int) (h0 : -9223372036854775808 ≤ n) (h1 : n ≤ 9223372036854775807) : num_Text.f n = some (textB n) := by unfold num_Text.f; rw [if_pos ⟨h0, h1⟩]
theorem parse_f (s : ByteArray) (h : s.size ≤ 140737488355328) : num_Parse.f s = some (parseB s) := by unfold num_Parse.f; rw [if_pos h]
theorem low_f (s : ByteArray) (h : s.size ≤ 140737488355327) : num_Lower.f s = some (lowB s) := by unfold num_Lower.f; rw [if_pos h]
theorem word_f (s : ByteArray) (h : s.size ≤ 140737488355328) : num_Word.f s = some (wordB s) := by unfold num_Word.f; rw [if_pos h]

theorem one_data (c : UInt8) : (⟨#[c]⟩ : ByteArray).data.toList = [c] := rfl
theorem app_size (s t : ByteArray) : (s ++ t).size = s.size + t.size := ByteArray.size_append
def i64 (n : Int) : Prop := -9223372036854775808 ≤ n ∧ n ≤ 9223372036854775807
theorem i64_wf {n : Int} (h : (Lit.int .i64 n).wf = true) : i64 n := by
  have e1 : IntKind.i64.min = -9223372036854775808 := rfl
  have e2 : IntKind.i64.max = 9223372036854775807 := rfl
  simp [Lit.wf, e1, e2] at h
  exact h

theorem lowB_data (s : ByteArray) : (lowB s).data.toList = s.data.toList.map low1 := by unfold lowB; simp
theorem lowB_size (s : ByteArray) : (lowB s).size = s.size := by rw [← size_data, lowB_data, List.length_map, size_data]
theorem low_low (c : UInt8) : low1 (low1 c) = low1 c := by
  unfold low1
  by_cases h : 65 ≤ c.toNat ∧ c.toNat ≤ 90
  · have e : (c + 32).toNat = c.toNat + 32 := by
      rw [UInt8.toNat_add]
      have : (32 : UInt8).toNat = 32 := rfl
      rw [this]
      omega
    rw [if_pos h, if_neg (by rw [e]; omega)]
  · rw [if_neg h, if_neg h]
theorem lowB_low (s : ByteArray) : lowB (lowB s) = lowB s := by
  apply str_ext'
  rw [lowB_data, lowB_data, List.map_map]
  congr 1
  funext c
  exact low_low c
theorem low_toNat (c : UInt8) : (low1 c).toNat = if 65 ≤ c.toNat ∧ c.toNat ≤ 90 then c.toNat + 32 else c.toNat := by
  unfold low1
  split
  · rw [UInt8.toNat_add]
    have : (32 : UInt8).toNat = 32 := rfl
    rw [this]
    omega
  · rfl
theorem okc_low (c : UInt8) : okc (low1 c) = okc c := by
  unfold okc
  rw [low_toNat]
  split
  · rw [decide_eq_true (by omega), decide_eq_true (by omega)]
  · rfl
theorem word_low (s : ByteArray) : wordB (lowB s) = wordB s := by
  unfold wordB
  rw [lowB_data, List.all_map]
  have : (okc ∘ low1) = okc := by funext c; exact okc_low c
  rw [this]
  cases s.data.toList <;> rfl
theorem bt_data {s : ByteArray} {k : Nat} {c : UInt8} (h : s.data.toList[k]? = some c) : bt s (k : Int) = (c.toNat : Int) := by
  have hk : k < s.data.toList.length := (List.getElem?_eq_some_iff.1 h).1
  have hk' : k < s.size := by rw [size_data] at hk; exact hk
  unfold bt
  rw [dif_pos (by simpa using hk')]
  have e : s.data.toList[k] = c := (List.getElem?_eq_some_iff.1 h).2
  rw [← e]
  rfl

theorem wrap_id {n : Int} (h : i64 n) : wrap64 n = n := by
  obtain ⟨h1, h2⟩ := h
  unfold wrap64
  omega
theorem wrap_u64 (n : Int) : IntKind.u64.wrap n = n % 18446744073709551616 := rfl
theorem str1_data (x : Int) : (strOfNums [x]).data.toList = [UInt8.ofNat x.toNat] := rfl
theorem str1_size (x : Int) : (strOfNums [x]).size = 1 := rfl

theorem dec_step (u : Nat) (h : ¬ u < 10) : decDigits u = decDigits (u / 10) ++ [UInt8.ofNat (48 + u % 10)] := by rw [decD, if_neg h]
theorem dec_one (u : Nat) (h : u < 10) : decDigits u = [UInt8.ofNat (48 + u)] := by rw [decD, if_pos h]
theorem itoa_nat (u : Nat) : itoa (u : Int) = decDigits u := by unfold itoa; rw [if_neg (by omega), Int.toNat_natCast]
theorem itoa_negn (u : Nat) (h : 0 < u) : itoa (-(u : Int)) = 45 :: decDigits u := by unfold itoa; rw [if_pos (by omega)]; simp

theorem ref_text (u : Nat) : (u ≤ 9223372036854775807 → Ev (fun k => tipstaffref01_Text.f k (u : Int)) (textB u)) ∧ (u ≤ 9223372036854775808 → Ev (fun k => tipstaffref01_Text.f k (-(u : Int))) (textB (-(u : Int)))) := by
  induction u using Nat.strongRecOn with
  | _ u ih =>
  refine ⟨fun hu => ?_, fun hu => ?_⟩
  · by_cases h10 : u < 10
    · refine Ev.step (f := fun _ => some (textB u)) (fun n => ?_) (Ev.now _)
      simp only [tipstaffref01_Text.f]
      rw [if_neg (by omega), if_pos (by omega)]
      congr 1
      apply str_ext'
      rw [str1_data, textB_data, itoa_nat, dec_one u h10]
      congr 2
      unfold wrap64
      omega
    · have e1 : wrap64 (Int.tdiv (u : Int) 10) = ((u / 10 : Nat) : Int) := by
        rw [Int.tdiv_eq_ediv_of_nonneg (by omega), wrap_id (by unfold i64; omega)]
        omega
      have e2 : (wrap64 (48 + (Int.tmod (u : Int) 10))) % 256 = ((48 + u % 10 : Nat) : Int) := by
        rw [Int.tmod_eq_emod_of_nonneg (by omega), wrap_id (by unfold i64; omega)]
        omega
      refine Ev.step (f := fun n => (tipstaffref01_Text.f n ((u / 10 : Nat) : Int)).bind fun t => if t.size + 1 ≤ 9223372036854775807 then some (t ++ strOfNums [((48 + u % 10 : Nat) : Int)]) else none) (fun n => ?_)
        (Ev.bind ((ih (u / 10) (by omega)).1 (by omega)) (Ev.congr (f := fun _ => some (textB u)) (fun _ => ?_) (Ev.now _)))
      · simp only [tipstaffref01_Text.f]
        rw [if_neg (by omega), if_neg (by omega), e1, e2]
        rfl
      · have hl := itoa_len ((u / 10 : Nat) : Int) (by omega) (by omega)
        rw [if_pos (by rw [textB_size]; omega)]
        congr 1
        apply str_ext'
        rw [app_data, str1_data, textB_data, textB_data, itoa_nat, itoa_nat, dec_step u h10]
        rfl
  · rcases Nat.eq_zero_or_pos u with h0 | h0
    · subst h0
      refine Ev.step (f := fun _ => some (textB 0)) (fun n => ?_) (Ev.now _)
      simp only [tipstaffref01_Text.f]
      rw [if_neg (by omega), if_pos (by omega)]
      congr 1
      apply str_ext'
      have e : (wrap64 (48 + -((0 : Nat) : Int))) % 256 = 48 := by unfold wrap64; omega
      rw [str1_data, textB_data, itoa0, e]
      rfl
    by_cases h10 : u < 10
    · refine Ev.step (f := fun _ => some (textB (-(u : Int)))) (fun n => ?_) (Ev.now _)
      have e2 : (wrap64 (48 - (-(u : Int)))) % 256 = ((48 + u : Nat) : Int) := by
        rw [wrap_id (by unfold i64; omega)]
        omega
      simp only [tipstaffref01_Text.f]
      rw [if_pos (by omega), if_pos (by omega), e2]
      simp only [Option.bind_some]
      rw [if_pos (by rw [str1_size]; omega)]
      congr 1
      apply str_ext'
      rw [app_data, str1_data, textB_data, itoa_negn u h0, dec_one u h10]
      rfl
    · have e1 : wrap64 (Int.tdiv (-(u : Int)) 10) = -((u / 10 : Nat) : Int) := by
        rw [Int.neg_tdiv, Int.tdiv_eq_ediv_of_nonneg (by omega), wrap_id (by unfold i64; omega)]
        omega
      have e2 : (wrap64 (48 - (Int.tmod (-(u : Int)) 10))) % 256 = ((48 + u % 10 : Nat) : Int) := by
        rw [Int.neg_tmod, Int.tmod_eq_emod_of_nonneg (by omega), wrap_id (by unfold i64; omega)]
        omega
      refine Ev.step (f := fun n => (tipstaffref01_Text.f n (-((u / 10 : Nat) : Int))).bind fun t => if t.size + 1 ≤ 9223372036854775807 then some (t ++ strOfNums [((48 + u % 10 : Nat) : Int)]) else none) (fun n => ?_)
        (Ev.bind ((ih (u / 10) (by omega)).2 (by omega)) (Ev.congr (f := fun _ => some (textB (-(u : Int)))) (fun _ => ?_) (Ev.now _)))
      · simp only [tipstaffref01_Text.f]
        rw [if_pos (by omega), if_neg (by omega), e1, e2]
        rfl
      · have hl := itoa_len (-((u / 10 : Nat) : Int)) (by omega) (by omega)
        rw [if_pos (by rw [textB_size]; omega)]
        congr 1
        apply str_ext'
        rw [app_data, str1_data, textB_data, textB_data, itoa_negn _ (by omega), itoa_negn _ h0, dec_step u h10]
        rfl
theorem ref_text_ev (n : Int) (h : i64 n) : Ev (fun k => tipstaffref01_Text.f k n) (textB n) := by
  obtain ⟨h1, h2⟩ := h
  rcases Int.le_total 0 n with h0 | h0
  · obtain ⟨u, rfl⟩ := Int.eq_ofNat_of_zero_le h0
    exact (ref_text u).1 (by omega)
  · obtain ⟨u, hu⟩ := Int.eq_ofNat_of_zero_le (show 0 ≤ -n by omega)
    obtain rfl : n = -(u : Int) := by omega
    exact (ref_text u).2 (by omega)

/-- What the digits come to, as the document's loop adds them. -/
def fstep (a : Int) (c : UInt8) : Int := IntKind.u64.wrap (IntKind.u64.wrap (a * 10) + ((c.toNat : Int) - 48) % 256)
theorem fold_dec : ∀ u, u < 18446744073709551616 → (decDigits u).foldl fstep 0 = (u : Int) := by
  intro u
  induction u using Nat.strongRecOn with
  | _ u ih =>
    intro hu
    by_cases h : u < 10
    · rw [dec_one u h]
      simp only [List.foldl_cons, List.foldl_nil, fstep, wrap_u64, ofNat_dig h]
      omega
    · rw [dec_step u h, List.foldl_append, ih (u / 10) (by omega) (by omega)]
      simp only [List.foldl_cons, List.foldl_nil, fstep, wrap_u64, ofNat_dig (show u % 10 < 10 by omega)]
      omega

theorem l0_run (s : ByteArray) (hs : s.size ≤ 1000) (r : Int × Bool) : ∀ d i : Nat, s.size - i = d → i ≤ s.size → ∀ acc : Int, Ev (fun n => tipstaffref01_Parse.l0 n s ((s.data.toList.drop i).foldl fstep acc) (s.size : Int)) r → Ev (fun n => tipstaffref01_Parse.l0 n s acc (i : Int)) r := by
  intro d
  induction d with
  | zero =>
    intro i hd hi acc h
    obtain rfl : i = s.size := by omega
    rw [List.drop_eq_nil_of_le (by rw [size_data]; omega)] at h
    exact h
  | succ d ih =>
    intro i hd hi acc h
    have hil : i < s.data.toList.length := by rw [size_data]; omega
    have hb : bt s (i : Int) = (s.data.toList[i].toNat : Int) := bt_data (List.getElem?_eq_getElem hil)
    have hw : wrap64 ((i : Int) + 1) = ((i + 1 : Nat) : Int) := by rw [wrap_id (by unfold i64; omega)]; omega
    rw [List.drop_eq_getElem_cons hil, List.foldl_cons] at h
    refine Ev.step (f := fun n => tipstaffref01_Parse.l0 n s (fstep acc s.data.toList[i]) ((i + 1 : Nat) : Int)) (fun n => ?_) (ih (i + 1) (by omega) (by omega) _ h)
    simp only [tipstaffref01_Parse.l0]
    rw [if_pos (by omega), if_pos (by omega), hb, hw]
    rfl
theorem l1_run (s : ByteArray) (hs : s.size ≤ 1000) (r : Int × Bool) : ∀ d i : Nat, s.size - i = d → i ≤ s.size → ∀ acc : Int, Ev (fun n => tipstaffref01_Parse.l1 n s ((s.data.toList.drop i).foldl fstep acc) (s.size : Int)) r → Ev (fun n => tipstaffref01_Parse.l1 n s acc (i : Int)) r := by
  intro d
  induction d with
  | zero =>
    intro i hd hi acc h
    obtain rfl : i = s.size := by omega
    rw [List.drop_eq_nil_of_le (by rw [size_data]; omega)] at h
    exact h
  | succ d ih =>
    intro i hd hi acc h
    have hil : i < s.data.toList.length := by rw [size_data]; omega
    have hb : bt s (i : Int) = (s.data.toList[i].toNat : Int) := bt_data (List.getElem?_eq_getElem hil)
    have hw : wrap64 ((i : Int) + 1) = ((i + 1 : Nat) : Int) := by rw [wrap_id (by unfold i64; omega)]; omega
    rw [List.drop_eq_getElem_cons hil, List.foldl_cons] at h
    refine Ev.step (f := fun n => tipstaffref01_Parse.l1 n s (fstep acc s.data.toList[i]) ((i + 1 : Nat) : Int)) (fun n => ?_) (ih (i + 1) (by omega) (by omega) _ h)
    simp only [tipstaffref01_Parse.l1]
    rw [if_pos (by omega), if_pos (by omega), hb, hw]
    rfl

theorem wrap_i64 (n : Int) : i64 (wrap64 n) := by unfold i64 wrap64; omega

/-- The last step of the document's Parse. -/
theorem parse_end (s : ByteArray) (k : Int) (hk : i64 k) (h : ∀ v, i64 v → textB v = s → v = k) : Ev (fun n => (tipstaffref01_Text.f n k).bind fun t => if t.toList = s.toList then some (k, true) else some (0, false)) (parseB s) := by
  refine Ev.bind (ref_text_ev k hk) (Ev.congr (f := fun _ => some (parseB s)) (fun _ => ?_) (Ev.now _))
  by_cases he : textB k = s
  · rw [he, if_pos rfl, ← he, parse_text k hk.1 hk.2]
  · rw [if_neg (fun hh => he (str_ext hh))]
    congr 1
    symm
    refine parse_false fun v h1 h2 hv => ?_
    have hv' : textB v = s := str_ext' (by rw [textB_data, hv])
    have := h v ⟨h1, h2⟩ hv'
    subst this
    exact he hv'

theorem ref_parse_ev (s : ByteArray) (hs : s.size ≤ 1000) : Ev (fun n => tipstaffref01_Parse.f n s) (parseB s) := by
  by_cases h0 : s.size = 0
  · have hp : parseB s = (0, false) := parse_false fun v _ _ hv => by
      obtain ⟨c, r, h1, _⟩ := itoa_head v
      have := congrArg List.length hv
      rw [h1, size_data] at this
      simp at this
      omega
    rw [hp]
    refine Ev.congr (f := fun n => tipstaffref01_Parse.j0 n s true) (fun n => by unfold tipstaffref01_Parse.f; rw [if_pos (by omega)]) (Ev.step (f := fun _ => some (0, false)) (fun n => ?_) (Ev.now _))
    simp only [tipstaffref01_Parse.j0, if_true]
  by_cases h20 : s.size > 20
  · have hp : parseB s = (0, false) := parse_false fun v h1 h2 hv => by
      have := congrArg List.length hv
      rw [size_data] at this
      have := itoa_len v h1 h2
      omega
    rw [hp]
    refine Ev.congr (f := fun n => tipstaffref01_Parse.j0 n s true) (fun n => by unfold tipstaffref01_Parse.f; rw [if_neg (by omega), decide_eq_true (by omega)]) (Ev.step (f := fun _ => some (0, false)) (fun n => ?_) (Ev.now _))
    simp only [tipstaffref01_Parse.j0, if_true]
  · refine Ev.congr (f := fun n => tipstaffref01_Parse.j0 n s false) (fun n => by unfold tipstaffref01_Parse.f; rw [if_neg (by omega), decide_eq_false (by omega)]) (Ev.step (f := fun n => tipstaffref01_Parse.l0 n s 0 ((0 : Nat) : Int)) (fun n => ?_) ?_)
    · simp only [tipstaffref01_Parse.j0]
      rw [if_neg (by decide)]
      rfl
    · refine l0_run s hs _ _ 0 rfl (by omega) 0 ?_
      rw [List.drop_zero]
      cases hl : s.data.toList with
      | nil =>
        have := size_data s
        rw [hl] at this
        simp at this
        omega
      | cons c l =>
        have hb : bt s 0 = (c.toNat : Int) := bt_data (k := 0) (by rw [hl]; rfl)
        by_cases h45 : c = 45
        · subst h45
          have e45 : ((45 : UInt8).toNat : Int) = 45 := rfl
          refine Ev.step (f := fun n => tipstaffref01_Parse.l1 n s 0 ((1 : Nat) : Int)) (fun n => ?_) (l1_run s hs _ _ 1 rfl (by omega) 0 ?_)
          · simp only [tipstaffref01_Parse.l0]
            rw [if_neg (by omega), if_pos (by omega), hb, e45, if_pos rfl]
            rfl
          · rw [hl]
            simp only [List.drop_succ_cons, List.drop_zero]
            refine Ev.step (f := fun n => (tipstaffref01_Text.f n (wrap64 (-(wrap64 (l.foldl fstep 0))))).bind fun t => if t.toList = s.toList then some (wrap64 (-(wrap64 (l.foldl fstep 0))), true) else some (0, false)) (fun n => ?_) (parse_end s _ (wrap_i64 _) fun v hv he => ?_)
            · simp only [tipstaffref01_Parse.l1]
              rw [if_neg (by omega)]
            · have hd : itoa v = 45 :: l := by rw [← hl, ← he, textB_data]
              obtain ⟨v1, v2⟩ := hv
              have hneg : v < 0 := by
                obtain ⟨c, r, h1, _, _, _, h5, _⟩ := itoa_head v
                rw [h1] at hd
                injection hd with hd _
                exact h5.1 hd
              obtain ⟨u, hu⟩ := Int.eq_ofNat_of_zero_le (show 0 ≤ -v by omega)
              obtain rfl : v = -(u : Int) := by omega
              rw [itoa_negn u (by omega)] at hd
              injection hd with _ hd
              rw [← hd, fold_dec u (by omega)]
              unfold wrap64
              omega
        · refine Ev.step (f := fun n => (tipstaffref01_Text.f n (wrap64 ((c :: l).foldl fstep 0))).bind fun t => if t.toList = s.toList then some (wrap64 ((c :: l).foldl fstep 0), true) else some (0, false)) (fun n => ?_) (parse_end s _ (wrap_i64 _) fun v hv he => ?_)
          · simp only [tipstaffref01_Parse.l0]
            rw [if_neg (by omega), if_pos (by omega), hb, if_neg]
            intro hc
            exact h45 (UInt8.toNat_inj.1 (by have : (45 : UInt8).toNat = 45 := rfl; omega))
          · have hd : itoa v = c :: l := by rw [← hl, ← he, textB_data]
            obtain ⟨v1, v2⟩ := hv
            have hnn : 0 ≤ v := by
              obtain ⟨c', r, h1, _, _, _, h5, _⟩ := itoa_head v
              rw [h1] at hd
              injection hd with hd _
              subst hd
              rcases Int.lt_or_le v 0 with h | h
              · exact absurd (h5.2 h) h45
              · exact h
            obtain ⟨u, rfl⟩ := Int.eq_ofNat_of_zero_le hnn
            rw [itoa_nat] at hd
            rw [← hd, fold_dec u (by omega), wrap_id ⟨v1, v2⟩]

def lowI (c : UInt8) : Int := if 65 ≤ c.toNat ∧ c.toNat ≤ 90 then ((c.toNat : Int) + 32) % 256 else (c.toNat : Int)
theorem ref_low_run (s : ByteArray) (hs : s.size ≤ 1000) : ∀ d i : Nat, s.size - i = d → i ≤ s.size → ∀ acc : List Int, acc.length ≤ i → Ev (fun n => tipstaffref01_Lower.l0 n s acc (i : Int)) (strOfNums (acc ++ (s.data.toList.drop i).map lowI)) := by
  intro d
  induction d with
  | zero =>
    intro i hd hi acc _
    obtain rfl : i = s.size := by omega
    rw [List.drop_eq_nil_of_le (by rw [size_data]; omega)]
    refine Ev.step (f := fun _ => some (strOfNums (acc ++ List.map lowI []))) (fun n => ?_) (Ev.now _)
    simp only [tipstaffref01_Lower.l0]
    rw [if_neg (by omega)]
    simp
  | succ d ih =>
    intro i hd hi acc ha
    have hil : i < s.data.toList.length := by rw [size_data]; omega
    have hb : bt s (i : Int) = (s.data.toList[i].toNat : Int) := bt_data (List.getElem?_eq_getElem hil)
    have hw : wrap64 ((i : Int) + 1) = ((i + 1 : Nat) : Int) := by rw [wrap_id (by unfold i64; omega)]; omega
    rw [List.drop_eq_getElem_cons hil, List.map_cons]
    have := ih (i + 1) (by omega) (by omega) (acc ++ [lowI s.data.toList[i]]) (by simp; omega)
    rw [List.append_assoc, List.singleton_append] at this
    refine Ev.step (f := fun n => tipstaffref01_Lower.l0 n s (acc ++ [lowI s.data.toList[i]]) ((i + 1 : Nat) : Int)) (fun n => ?_) this
    simp only [tipstaffref01_Lower.l0]
    rw [if_pos (by omega), if_pos (by omega), hb, hw]
    unfold lowI
    generalize (s.data.toList[i]).toNat = c at *
    by_cases h1 : 65 ≤ c
    · by_cases h2 : c ≤ 90
      · rw [if_pos (by omega), if_pos (by omega), if_pos (by omega), if_pos ⟨h1, h2⟩]
      · rw [if_pos (by omega), if_neg (by omega), if_pos (by omega), if_neg (fun h => h2 h.2)]
    · rw [if_neg (by omega), if_pos (by omega), if_neg (fun h => h1 h.1)]
theorem ref_low_ev (s : ByteArray) (hs : s.size ≤ 1000) : Ev (fun n => tipstaffref01_Lower.f n s) (lowB s) := by
  have h := ref_low_run s hs _ 0 rfl (by omega) [] (by simp)
  have e : strOfNums ([] ++ (s.data.toList.drop 0).map lowI) = lowB s := by
    apply str_ext'
    rw [strOfNums_data, lowB_data, List.nil_append, List.drop_zero, List.map_map]
    congr 1
    funext c
    show UInt8.ofNat (lowI c).toNat = low1 c
    apply UInt8.toNat_inj.1
    have := c.toNat_lt
    rw [low_toNat, UInt8.toNat_ofNat']
    unfold lowI
    split
    · omega
    · omega
  rw [e] at h
  exact h

theorem ref_word_run (s : ByteArray) (hs : s.size ≤ 1000) : ∀ d i : Nat, s.size - i = d → i ≤ s.size → Ev (fun n => tipstaffref01_Word.l0 n s (i : Int)) ((s.data.toList.drop i).all okc && decide (s.size > 0)) := by
  intro d
  induction d with
  | zero =>
    intro i hd hi
    obtain rfl : i = s.size := by omega
    rw [List.drop_eq_nil_of_le (by rw [size_data]; omega)]
    refine Ev.step (f := fun _ => some (decide (s.size > 0))) (fun n => ?_) (by simpa using Ev.now (decide (s.size > 0)))
    simp only [tipstaffref01_Word.l0]
    rw [if_neg (by omega)]
    congr 1
    simp
  | succ d ih =>
    intro i hd hi
    have hil : i < s.data.toList.length := by rw [size_data]; omega
    have hb : bt s (i : Int) = (s.data.toList[i].toNat : Int) := bt_data (List.getElem?_eq_getElem hil)
    have hw : wrap64 ((i : Int) + 1) = ((i + 1 : Nat) : Int) := by rw [wrap_id (by unfold i64; omega)]; omega
    rw [List.drop_eq_getElem_cons hil, List.all_cons]
    cases hc : okc s.data.toList[i] with
    | true =>
      rw [Bool.true_and]
      refine Ev.step (f := fun n => tipstaffref01_Word.l0 n s ((i + 1 : Nat) : Int)) (fun n => ?_) (ih (i + 1) (by omega) (by omega))
      unfold okc at hc
      have hc' := of_decide_eq_true hc
      simp only [tipstaffref01_Word.l0]
      rw [if_pos (by omega), if_pos (by omega), hb, hw, if_neg (by omega), if_neg (by omega)]
    | false =>
      rw [Bool.false_and, Bool.false_and]
      refine Ev.step (f := fun _ => some false) (fun n => ?_) (Ev.now _)
      unfold okc at hc
      have hc' := of_decide_eq_false hc
      simp only [tipstaffref01_Word.l0]
      rw [if_pos (by omega), if_pos (by omega), hb]
      by_cases h1 : (s.data.toList[i]).toNat < 33
      · rw [if_pos (by omega)]
      · rw [if_neg (by omega), if_pos (by omega)]
theorem ref_word_ev (s : ByteArray) (hs : s.size ≤ 1000) : Ev (fun n => tipstaffref01_Word.f n s) (wordB s) := by
  have h := ref_word_run s hs _ 0 rfl (by omega)
  have e : ((s.data.toList.drop 0).all okc && decide (s.size > 0)) = wordB s := by
    unfold wordB
    rw [List.drop_zero]
    congr 1
    rw [← size_data]
    cases s.data.toList <;> simp
  rw [e] at h
  exact h

end Go.Proofs.YtencimfeipglaaaDoor.X
