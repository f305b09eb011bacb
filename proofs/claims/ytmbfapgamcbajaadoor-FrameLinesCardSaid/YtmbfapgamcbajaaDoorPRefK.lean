/- Plain: the document's Next is the program's: the line. -/
import Derived.Test.YtmbfapgamcbajaaDoorPTxt
import Derived.Test.YtmbfapgamcbajaaDoorXx3
import Derived.Test.YtmbfapgamcbajaaDoorXx4
import Derived.Test.YtmbfapgamcbajaaDoorPFrm4
import Derived.Test.YtmbfapgamcbajaaDoorXx8
set_option linter.unusedVariables false
set_option linter.unusedSimpArgs false
namespace Go.Proofs.YtmbfapgamcbajaaDoor.X
open Go.RowKit Go.Lib Go.Proofs.YtmbfapgamcbajaaDoorW.PrintWords

theorem text_f (n : Int) (h0 : -9223372036854775808 ≤ n) (h1 : n ≤ 9223372036854775807) : num_Text.f n = some (textB n) := by unfold num_Text.f; rw [if_pos ⟨h0, h1⟩]
theorem parse_f (s : ByteArray) (h : s.size ≤ 140737488355328) : num_Parse.f s = some (parseB s) := by unfold num_Parse.f; rw [if_pos h]
theorem one_data (c : UInt8) : (⟨#[c]⟩ : ByteArray).data.toList = [c] := rfl
theorem app_sizeR (s t : ByteArray) : (s ++ t).size = s.size + t.size := ByteArray.size_append
def i64 (n : Int) : Prop := -9223372036854775808 ≤ n ∧ n ≤ 9223372036854775807
theorem i64_wf {n : Int} (h : (Lit.int .i64 n).wf = true) : i64 n := by
  have e1 : IntKind.i64.min = -9223372036854775808 := rfl
  have e2 : IntKind.i64.max = 9223372036854775807 := rfl
  simp [Lit.wf, e1, e2] at h
  exact h
theorem bt_data {s : ByteArray} {k : Nat} {c : UInt8} (h : s.data.toList[k]? = some c) : bt s (k : Int) = (c.toNat : Int) := by
  have hk : k < s.data.toList.length := (List.getElem?_eq_some_iff.1 h).1
  have hk' : k < s.size := by rw [size_data] at hk; exact hk
  unfold bt
  rw [dif_pos (by simpa using hk')]
  have e : s.data.toList[k] = c := (List.getElem?_eq_some_iff.1 h).2
  rw [← e]
  rfl

theorem wrap_id {n : Int} (h : i64 n) : wrap64 n = n := by
  obtain ⟨h1, h2⟩ := h
  unfold wrap64
  omega
theorem wrap_u64 (n : Int) : IntKind.u64.wrap n = n % 18446744073709551616 := rfl
theorem str1_data (x : Int) : (strOfNums [x]).data.toList = [UInt8.ofNat x.toNat] := rfl
theorem str1_size (x : Int) : (strOfNums [x]).size = 1 := rfl

theorem dec_step (u : Nat) (h : ¬ u < 10) : decDigits u = decDigits (u / 10) ++ [UInt8.ofNat (48 + u % 10)] := by rw [decD, if_neg h]
theorem dec_one (u : Nat) (h : u < 10) : decDigits u = [UInt8.ofNat (48 + u)] := by rw [decD, if_pos h]
theorem itoa_nat (u : Nat) : itoa (u : Int) = decDigits u := by unfold itoa; rw [if_neg (by omega), Int.toNat_natCast]
theorem itoa_negn (u : Nat) (h : 0 < u) : itoa (-(u : Int)) = 45 :: decDigits u := by unfold itoa; rw [if_pos (by omega)]; simp

theorem ref_text (u : Nat) : (u ≤ 9223372036854775807 → Ev (fun k => tipstaffref01_Text.f k (u : Int)) (textB u)) ∧ (u ≤ 9223372036854775808 → Ev (fun k => tipstaffref01_Text.f k (-(u : Int))) (textB (-(u : Int)))) := by
  induction u using Nat.strongRecOn with
  | _ u ih =>
  refine ⟨fun hu => ?_, fun hu => ?_⟩
  · by_cases h10 : u < 10
    · refine Ev.step (f := fun _ => some (textB u)) (fun n => ?_) (Ev.now _)
      simp only [tipstaffref01_Text.f]
      rw [if_neg (by omega), if_pos (by omega)]
      congr 1
      apply str_ext'
      rw [str1_data, textB_data, itoa_nat, dec_one u h10]
      congr 2
      unfold wrap64
      omega
    · have e1 : wrap64 (Int.tdiv (u : Int) 10) = ((u / 10 : Nat) : Int) := by
        rw [Int.tdiv_eq_ediv_of_nonneg (by omega), wrap_id (by unfold i64; omega)]
        omega
      have e2 : (wrap64 (48 + (Int.tmod (u : Int) 10))) % 256 = ((48 + u % 10 : Nat) : Int) := by
        rw [Int.tmod_eq_emod_of_nonneg (by omega), wrap_id (by unfold i64; omega)]
        omega
      refine Ev.step (f := fun n => (tipstaffref01_Text.f n ((u / 10 : Nat) : Int)).bind fun t => if t.size + 1 ≤ 9223372036854775807 then some (t ++ strOfNums [((48 + u % 10 : Nat) : Int)]) else none) (fun n => ?_)
        (Ev.bind ((ih (u / 10) (by omega)).1 (by omega)) (Ev.congr (f := fun _ => some (textB u)) (fun _ => ?_) (Ev.now _)))
      · simp only [tipstaffref01_Text.f]
        rw [if_neg (by omega), if_neg (by omega), e1, e2]
        rfl
      · have hl := itoa_len ((u / 10 : Nat) : Int) (by omega) (by omega)
        rw [if_pos (by rw [textB_size]; omega)]
        congr 1
        apply str_ext'
        rw [app_data, str1_data, textB_data, textB_data, itoa_nat, itoa_nat, dec_step u h10]
        rfl
  · rcases Nat.eq_zero_or_pos u with h0 | h0
    · subst h0
      refine Ev.step (f := fun _ => some (textB 0)) (fun n => ?_) (Ev.now _)
      simp only [tipstaffref01_Text.f]
      rw [if_neg (by omega), if_pos (by omega)]
      congr 1
      apply str_ext'
      have e : (wrap64 (48 + -((0 : Nat) : Int))) % 256 = 48 := by unfold wrap64; omega
      rw [str1_data, textB_data, itoa0, e]
      rfl
    by_cases h10 : u < 10
    · refine Ev.step (f := fun _ => some (textB (-(u : Int)))) (fun n => ?_) (Ev.now _)
      have e2 : (wrap64 (48 - (-(u : Int)))) % 256 = ((48 + u : Nat) : Int) := by
        rw [wrap_id (by unfold i64; omega)]
        omega
      simp only [tipstaffref01_Text.f]
      rw [if_pos (by omega), if_pos (by omega), e2]
      simp only [Option.bind_some]
      rw [if_pos (by rw [str1_size]; omega)]
      congr 1
      apply str_ext'
      rw [app_data, str1_data, textB_data, itoa_negn u h0, dec_one u h10]
      rfl
    · have e1 : wrap64 (Int.tdiv (-(u : Int)) 10) = -((u / 10 : Nat) : Int) := by
        rw [Int.neg_tdiv, Int.tdiv_eq_ediv_of_nonneg (by omega), wrap_id (by unfold i64; omega)]
        omega
      have e2 : (wrap64 (48 - (Int.tmod (-(u : Int)) 10))) % 256 = ((48 + u % 10 : Nat) : Int) := by
        rw [Int.neg_tmod, Int.tmod_eq_emod_of_nonneg (by omega), wrap_id (by unfold i64; omega)]
        omega
      refine Ev.step (f := fun n => (tipstaffref01_Text.f n (-((u / 10 : Nat) : Int))).bind fun t => if t.size + 1 ≤ 9223372036854775807 then some (t ++ strOfNums [((48 + u % 10 : Nat) : Int)]) else none) (fun n => ?_)
        (Ev.bind ((ih (u / 10) (by omega)).2 (by omega)) (Ev.congr (f := fun _ => some (textB (-(u : Int)))) (fun _ => ?_) (Ev.now _)))
      · simp only [tipstaffref01_Text.f]
        rw [if_pos (by omega), if_neg (by omega), e1, e2]
        rfl
      · have hl := itoa_len (-((u / 10 : Nat) : Int)) (by omega) (by omega)
        rw [if_pos (by rw [textB_size]; omega)]
        congr 1
        apply str_ext'
        rw [app_data, str1_data, textB_data, textB_data, itoa_negn _ (by omega), itoa_negn _ h0, dec_step u h10]
        rfl
theorem ref_text_ev (n : Int) (h : i64 n) : Ev (fun k => tipstaffref01_Text.f k n) (textB n) := by
  obtain ⟨h1, h2⟩ := h
  rcases Int.le_total 0 n with h0 | h0
  · obtain ⟨u, rfl⟩ := Int.eq_ofNat_of_zero_le h0
    exact (ref_text u).1 (by omega)
  · obtain ⟨u, hu⟩ := Int.eq_ofNat_of_zero_le (show 0 ≤ -n by omega)
    obtain rfl : n = -(u : Int) := by omega
    exact (ref_text u).2 (by omega)

/-- What the digits come to, as the document's loop adds them. -/
def fstep (a : Int) (c : UInt8) : Int := IntKind.u64.wrap (IntKind.u64.wrap (a * 10) + ((c.toNat : Int) - 48) % 256)
theorem fold_dec : ∀ u, u < 18446744073709551616 → (decDigits u).foldl fstep 0 = (u : Int) := by
  intro u
  induction u using Nat.strongRecOn with
  | _ u ih =>
    intro hu
    by_cases h : u < 10
    · rw [dec_one u h]
      simp only [List.foldl_cons, List.foldl_nil, fstep, wrap_u64, ofNat_dig h]
      omega
    · rw [dec_step u h, List.foldl_append, ih (u / 10) (by omega) (by omega)]
      simp only [List.foldl_cons, List.foldl_nil, fstep, wrap_u64, ofNat_dig (show u % 10 < 10 by omega)]
      omega

theorem l0_run (s : ByteArray) (hs : s.size ≤ 60) (r : Int × Bool) : ∀ d i : Nat, s.size - i = d → i ≤ s.size → ∀ acc : Int, Ev (fun n => tipstaffref01_Parse.l0 n s ((s.data.toList.drop i).foldl fstep acc) (s.size : Int)) r → Ev (fun n => tipstaffref01_Parse.l0 n s acc (i : Int)) r := by
  intro d
  induction d with
  | zero =>
    intro i hd hi acc h
    obtain rfl : i = s.size := by omega
    rw [List.drop_eq_nil_of_le (by rw [size_data]; omega)] at h
    exact h
  | succ d ih =>
    intro i hd hi acc h
    have hil : i < s.data.toList.length := by rw [size_data]; omega
    have hb : bt s (i : Int) = (s.data.toList[i].toNat : Int) := bt_data (List.getElem?_eq_getElem hil)
    have hw : wrap64 ((i : Int) + 1) = ((i + 1 : Nat) : Int) := by rw [wrap_id (by unfold i64; omega)]; omega
    rw [List.drop_eq_getElem_cons hil, List.foldl_cons] at h
    refine Ev.step (f := fun n => tipstaffref01_Parse.l0 n s (fstep acc s.data.toList[i]) ((i + 1 : Nat) : Int)) (fun n => ?_) (ih (i + 1) (by omega) (by omega) _ h)
    simp only [tipstaffref01_Parse.l0]
    rw [if_pos (by omega), if_pos (by omega), hb, hw]
    rfl
theorem l1_run (s : ByteArray) (hs : s.size ≤ 60) (r : Int × Bool) : ∀ d i : Nat, s.size - i = d → i ≤ s.size → ∀ acc : Int, Ev (fun n => tipstaffref01_Parse.l1 n s ((s.data.toList.drop i).foldl fstep acc) (s.size : Int)) r → Ev (fun n => tipstaffref01_Parse.l1 n s acc (i : Int)) r := by
  intro d
  induction d with
  | zero =>
    intro i hd hi acc h
    obtain rfl : i = s.size := by omega
    rw [List.drop_eq_nil_of_le (by rw [size_data]; omega)] at h
    exact h
  | succ d ih =>
    intro i hd hi acc h
    have hil : i < s.data.toList.length := by rw [size_data]; omega
    have hb : bt s (i : Int) = (s.data.toList[i].toNat : Int) := bt_data (List.getElem?_eq_getElem hil)
    have hw : wrap64 ((i : Int) + 1) = ((i + 1 : Nat) : Int) := by rw [wrap_id (by unfold i64; omega)]; omega
    rw [List.drop_eq_getElem_cons hil, List.foldl_cons] at h
    refine Ev.step (f := fun n => tipstaffref01_Parse.l1 n s (fstep acc s.data.toList[i]) ((i + 1 : Nat) : Int)) (fun n => ?_) (ih (i + 1) (by omega) (by omega) _ h)
    simp only [tipstaffref01_Parse.l1]
    rw [if_pos (by omega), if_pos (by omega), hb, hw]
    rfl

theorem wrap_i64 (n : Int) : i64 (wrap64 n) := by unfold i64 wrap64; omega

/-- The last step of the document's Parse. -/
theorem parse_end (s : ByteArray) (k : Int) (hk : i64 k) (h : ∀ v, i64 v → textB v = s → v = k) : Ev (fun n => (tipstaffref01_Text.f n k).bind fun t => if t.toList = s.toList then some (k, true) else some (0, false)) (parseB s) := by
  refine Ev.bind (ref_text_ev k hk) (Ev.congr (f := fun _ => some (parseB s)) (fun _ => ?_) (Ev.now _))
  by_cases he : textB k = s
  · rw [he, if_pos rfl, ← he, parse_text k hk.1 hk.2]
  · rw [if_neg (fun hh => he (str_ext hh))]
    congr 1
    symm
    refine parse_false fun v h1 h2 hv => ?_
    have hv' : textB v = s := str_ext' (by rw [textB_data, hv])
    have := h v ⟨h1, h2⟩ hv'
    subst this
    exact he hv'

theorem ref_parse_ev (s : ByteArray) (hs : s.size ≤ 60) : Ev (fun n => tipstaffref01_Parse.f n s) (parseB s) := by
  by_cases h0 : s.size = 0
  · have hp : parseB s = (0, false) := parse_false fun v _ _ hv => by
      obtain ⟨c, r, h1, _⟩ := itoa_head v
      have := congrArg List.length hv
      rw [h1, size_data] at this
      simp at this
      omega
    rw [hp]
    refine Ev.congr (f := fun n => tipstaffref01_Parse.j0 n s true) (fun n => by unfold tipstaffref01_Parse.f; rw [if_pos (by omega)]) (Ev.step (f := fun _ => some (0, false)) (fun n => ?_) (Ev.now _))
    simp only [tipstaffref01_Parse.j0, if_true]
  by_cases h20 : s.size > 20
  · have hp : parseB s = (0, false) := parse_false fun v h1 h2 hv => by
      have := congrArg List.length hv
      rw [size_data] at this
      have := itoa_len v h1 h2
      omega
    rw [hp]
    refine Ev.congr (f := fun n => tipstaffref01_Parse.j0 n s true) (fun n => by unfold tipstaffref01_Parse.f; rw [if_neg (by omega), decide_eq_true (by omega)]) (Ev.step (f := fun _ => some (0, false)) (fun n => ?_) (Ev.now _))
    simp only [tipstaffref01_Parse.j0, if_true]
  · refine Ev.congr (f := fun n => tipstaffref01_Parse.j0 n s false) (fun n => by unfold tipstaffref01_Parse.f; rw [if_neg (by omega), decide_eq_false (by omega)]) (Ev.step (f := fun n => tipstaffref01_Parse.l0 n s 0 ((0 : Nat) : Int)) (fun n => ?_) ?_)
    · simp only [tipstaffref01_Parse.j0]
      rw [if_neg (by decide)]
      rfl
    · refine l0_run s hs _ _ 0 rfl (by omega) 0 ?_
      rw [List.drop_zero]
      cases hl : s.data.toList with
      | nil =>
        have := size_data s
        rw [hl] at this
        simp at this
        omega
      | cons c l =>
        have hb : bt s 0 = (c.toNat : Int) := bt_data (k := 0) (by rw [hl]; rfl)
        by_cases h45 : c = 45
        · subst h45
          have e45 : ((45 : UInt8).toNat : Int) = 45 := rfl
          refine Ev.step (f := fun n => tipstaffref01_Parse.l1 n s 0 ((1 : Nat) : Int)) (fun n => ?_) (l1_run s hs _ _ 1 rfl (by omega) 0 ?_)
          · simp only [tipstaffref01_Parse.l0]
            rw [if_neg (by omega), if_pos (by omega), hb, e45, if_pos rfl]
            rfl
          · rw [hl]
            simp only [List.drop_succ_cons, List.drop_zero]
            refine Ev.step (f := fun n => (tipstaffref01_Text.f n (wrap64 (-(wrap64 (l.foldl fstep 0))))).bind fun t => if t.toList = s.toList then some (wrap64 (-(wrap64 (l.foldl fstep 0))), true) else some (0, false)) (fun n => ?_) (parse_end s _ (wrap_i64 _) fun v hv he => ?_)
            · simp only [tipstaffref01_Parse.l1]
              rw [if_neg (by omega)]
            · have hd : itoa v = 45 :: l := by rw [← hl, ← he, textB_data]
              obtain ⟨v1, v2⟩ := hv
              have hneg : v < 0 := by
                obtain ⟨c, r, h1, _, _, _, h5, _⟩ := itoa_head v
                rw [h1] at hd
                injection hd with hd _
                exact h5.1 hd
              obtain ⟨u, hu⟩ := Int.eq_ofNat_of_zero_le (show 0 ≤ -v by omega)
              obtain rfl : v = -(u : Int) := by omega
              rw [itoa_negn u (by omega)] at hd
              injection hd with _ hd
              rw [← hd, fold_dec u (by omega)]
              unfold wrap64
              omega
        · refine Ev.step (f := fun n => (tipstaffref01_Text.f n (wrap64 ((c :: l).foldl fstep 0))).bind fun t => if t.toList = s.toList then some (wrap64 ((c :: l).foldl fstep 0), true) else some (0, false)) (fun n => ?_) (parse_end s _ (wrap_i64 _) fun v hv he => ?_)
          · simp only [tipstaffref01_Parse.l0]
            rw [if_neg (by omega), if_pos (by omega), hb, if_neg]
            intro hc
            exact h45 (UInt8.toNat_inj.1 (by have : (45 : UInt8).toNat = 45 := rfl; omega))
          · have hd : itoa v = c :: l := by rw [← hl, ← he, textB_data]
            obtain ⟨v1, v2⟩ := hv
            have hnn : 0 ≤ v := by
              obtain ⟨c', r, h1, _, _, _, h5, _⟩ := itoa_head v
              rw [h1] at hd
              injection hd with hd _
              subst hd
              rcases Int.lt_or_le v 0 with h | h
              · exact absurd (h5.2 h) h45
              · exact h
            obtain ⟨u, rfl⟩ := Int.eq_ofNat_of_zero_le hnn
            rw [itoa_nat] at hd
            rw [← hd, fold_dec u (by omega), wrap_id ⟨v1, v2⟩]
end Go.Proofs.YtmbfapgamcbajaaDoor.X
namespace Go.Proofs.YtmbfapgamcbajaaDoor.X
open Go.RowKit Go.Proofs.YtmbfapgamcbajaaDoorW.PrintWords

def Byt (b : List Int) : Prop := ∀ x ∈ b, 0 ≤ x ∧ x ≤ 255
theorem rdU {b : List Int} (hb : Byt b) (i : Nat) (h : i < b.length) : ∃ c, (U b)[i]? = some c ∧ rd b (i : Int) = (c.toNat : Int) := by
  refine ⟨UInt8.ofNat (b[i]).toNat, by simp [U, Go.Lib.bytesOf, h], ?_⟩
  have := hb b[i] (List.getElem_mem h)
  have e : rd b (i : Int) = b[i] := by unfold rd; rw [Int.toNat_natCast, List.getD_eq_getElem?_getD, List.getElem?_eq_getElem h]; rfl
  rw [e, UInt8.toNat_ofNat']
  omega
theorem w64 {n : Int} (h0 : -1000000 ≤ n) (h1 : n ≤ 1000000) : wrap64 n = n := wrap_id ⟨by omega, by omega⟩
theorem byteI {c : UInt8} (n : Nat) (h : n < 256) : ((c.toNat : Int) = (n : Int)) ↔ c = UInt8.ofNat n := by
  constructor
  · intro e
    apply UInt8.toNat_inj.1
    rw [UInt8.toNat_ofNat']
    omega
  · rintro rfl
    rw [UInt8.toNat_ofNat']
    omega

def hdR (a : Nat) : Hd → Int × Int
  | .short => (0, -1)
  | .bad => (0, -2)
  | .ok k n => ((k : Int), ((a + n : Nat) : Int))

theorem cut_U (b : List Int) (a n : Nat) (h : 2 ≤ n) : strOfNums ((b.take (a + n - 1)).drop (a + 1)) = ⟨((((U b).drop a).take (n - 1)).drop 1).toArray⟩ := by
  rw [nums_mk, U_drop, U_take]
  congr 2
  rw [← List.drop_drop, List.drop_take]
  congr 2
  omega

theorem head_j2 (b : List Int) (a n : Nat) (low high : Int) (hl : 0 ≤ low) (h2 : 2 ≤ n) (hn : a + n < b.length) (h16 : n < 16) (hlen : b.length ≤ 2000) (r : Int × Int)
    (hr : r = if (parseB ⟨((((U b).drop a).take (n - 1)).drop 1).toArray⟩).2 = true ∧ low ≤ (parseB ⟨((((U b).drop a).take (n - 1)).drop 1).toArray⟩).1 ∧ (parseB ⟨((((U b).drop a).take (n - 1)).drop 1).toArray⟩).1 ≤ high then ((parseB ⟨((((U b).drop a).take (n - 1)).drop 1).toArray⟩).1, ((a + (n + 1) : Nat) : Int)) else (0, -2)) :
    Ev (fun k => tipstaffref06_head.j2 k b (a : Int) low high ((a + n : Nat) : Int) false) r := by
  have hsz : (⟨((((U b).drop a).take (n - 1)).drop 1).toArray⟩ : ByteArray).size ≤ 60 := by
    rw [size_mk, List.length_drop, List.length_take]
    omega
  have hp := ref_parse_ev _ hsz
  rw [← cut_U b a n h2] at hp hr
  refine Ev.step (f := fun k => (tipstaffref01_Parse.f k (strOfNums ((b.take (a + n - 1)).drop (a + 1)))).bind fun bt143 => (if bt143.2 = true then (if bt143.1 < low then (some (0, (-2))) else (if bt143.1 > high then (some (0, (-2))) else (some (bt143.1, wrap64 (((a + n : Nat) : Int) + 1))))) else (some (0, (-2))))) (fun k => ?_) (Ev.bind hp ?_)
  · simp only [tipstaffref06_head.j2]
    rw [if_neg (by decide), w64 (by omega) (by omega), w64 (by omega) (by omega), if_pos (by omega), if_pos (by omega), if_pos (by omega)]
    have e1 : (((a + n : Nat) : Int) - 1).toNat = a + n - 1 := by omega
    have e2 : ((a : Int) + 1).toNat = a + 1 := by omega
    rw [e1, e2]
  · refine Ev.congr (f := fun _ => some r) (fun k => ?_) (Ev.now r)
    rw [w64 (by omega) (by omega), hr]
    generalize parseB (strOfNums ((b.take (a + n - 1)).drop (a + 1))) = p
    obtain ⟨v, ok⟩ := p
    simp only
    cases ok with
    | false => simp
    | true =>
      by_cases h1 : v < low
      · rw [if_pos rfl, if_pos h1, if_neg (by omega)]
      · by_cases h3 : v > high
        · rw [if_pos rfl, if_neg h1, if_pos h3, if_neg (by omega)]
        · rw [if_pos rfl, if_neg h1, if_neg h3, if_pos ⟨rfl, by omega, by omega⟩]
          congr 3

theorem lineHd_eq (mark : UInt8) (low high : Int) (s : List UInt8) (n : Nat) (h2 : 2 ≤ n) (hn : n ≤ s.length) (m : UInt8) (hm : s[0]? = some m) (c : UInt8) (hc : s[n - 1]? = some c) :
    lineHd mark low high (s.take n) = if m = mark ∧ c = 13 ∧ (parseB ⟨((s.take (n - 1)).drop 1).toArray⟩).2 = true ∧ low ≤ (parseB ⟨((s.take (n - 1)).drop 1).toArray⟩).1 ∧ (parseB ⟨((s.take (n - 1)).drop 1).toArray⟩).1 ≤ high then .ok (parseB ⟨((s.take (n - 1)).drop 1).toArray⟩).1.toNat (n + 1) else .bad := by
  obtain ⟨r, hr⟩ : ∃ r, s.take n = m :: r := by
    cases s with
    | nil => simp at hm
    | cons x s' =>
      simp at hm
      subst hm
      obtain ⟨j, rfl⟩ : ∃ j, n = j + 1 := ⟨n - 1, by omega⟩
      exact ⟨s'.take j, rfl⟩
  have hl : (s.take n).length = n := by rw [List.length_take]; omega
  rw [hr] at hl
  have hg : r.getLast? = some c := by
    have h1 : (s.take n)[n - 1]? = some c := by rw [List.getElem?_take, if_pos (by omega)]; exact hc
    rw [hr] at h1
    obtain ⟨j, hj⟩ : ∃ j, n - 1 = j + 1 := ⟨n - 2, by omega⟩
    rw [hj, List.getElem?_cons_succ] at h1
    rw [List.getLast?_eq_getElem?, ← h1]
    congr 1
    simp at hl
    omega
  have hd : r.dropLast = (s.take (n - 1)).drop 1 := by
    have e : s.take (n - 1) = (s.take n).dropLast := by
      rw [List.dropLast_eq_take, List.length_take, List.take_take]
      congr 1
      omega
    rw [e, hr]
    cases r with
    | nil => simp at hg
    | cons => rfl
  rw [hr]
  unfold lineHd
  simp only
  rw [hg, hd, hl]
  simp only [Option.some.injEq]

theorem head_run (b : List Int) (hb : Byt b) (hlen : b.length ≤ 2000) (a : Nat) (ha : a ≤ b.length) (mark : UInt8) (low high : Int) (hl : 0 ≤ low) :
    ∀ d i : Nat, 16 - i = d → i ≤ 16 → a + i ≤ b.length → (∀ j, j < i → ((U b).drop a)[j]? ≠ some 10) → Ev (fun k => tipstaffref06_head.l0 k b (a : Int) (mark.toNat : Int) low high ((a + i : Nat) : Int)) (hdR a (headU mark low high ((U b).drop a))) := by
  obtain ⟨s, hs⟩ : ∃ s, s = (U b).drop a := ⟨_, rfl⟩
  rw [← hs]
  have hsl : s.length = b.length - a := by rw [hs, List.length_drop, U_len]
  intro d
  induction d with
  | zero =>
    intro i hd hi hai hno
    have hi16 : i = 16 := by omega
    subst hi16
    have hneg : lineU s < 0 := by
      refine Int.not_le.1 fun h => ?_
      obtain ⟨o, ho⟩ := Int.eq_ofNat_of_zero_le h
      have h1 := (Lib.indexByte_some (show Lib.indexByte (s.take 16) 10 = o from ho)).1
      rw [List.getElem?_take] at h1
      split at h1
      · exact hno o (by assumption) h1
      · cases h1
    have hr : headU mark low high s = .bad := by unfold headU; rw [if_pos hneg, if_neg (by omega)]
    rw [hr]
    refine Ev.step (f := fun k => tipstaffref06_head.j1 k b (a : Int) (mark.toNat : Int) low high ((a + 16 : Nat) : Int) false) (fun k => ?_) ?_
    · simp only [tipstaffref06_head.l0]
      by_cases h : ((a + 16 : Nat) : Int) < (b.length : Int)
      · rw [if_pos h, w64 (by omega) (by omega), decide_eq_false (by omega)]
      · rw [if_neg h]
    · refine Ev.step (f := fun _ => some (0, -2)) (fun k => ?_) (Ev.now _)
      simp only [tipstaffref06_head.j1]
      rw [if_neg (by decide), w64 (by omega) (by omega), if_pos (by omega)]
  | succ d ih =>
    intro i hd hi hai hno
    by_cases hlt : a + i < b.length
    · obtain ⟨c, hc, hrd⟩ := rdU hb (a + i) hlt
      have hsc : s[i]? = some c := by rw [hs, List.getElem?_drop]; exact hc
      refine Ev.step (f := fun k => tipstaffref06_head.j1 k b (a : Int) (mark.toNat : Int) low high ((a + i : Nat) : Int) true) (fun k => ?_) ?_
      · simp only [tipstaffref06_head.l0]
        rw [if_pos (by omega), w64 (by omega) (by omega), decide_eq_true (by omega)]
      · by_cases h10 : c = 10
        · subst h10
          have hline : lineU s = i := by
            have h1 : s.take 16 = s.take i ++ 10 :: ((s.take 16).drop (i + 1)) := by
              have h3 : (s.take 16)[i]? = some 10 := by rw [List.getElem?_take, if_pos (by omega)]; exact hsc
              have h4 := (List.getElem?_eq_some_iff.1 h3)
              rw [← h4.2, List.getElem_cons_drop]
              have e : s.take i = (s.take 16).take i := by rw [List.take_take]; congr 1; omega
              rw [e, List.take_append_drop]
            unfold lineU
            rw [h1, idx_put]
            · rw [List.length_take]; omega
            · intro x hx
              rintro rfl
              obtain ⟨j, hj⟩ := List.getElem?_of_mem hx
              rw [List.getElem?_take] at hj
              split at hj
              · exact hno j (by assumption) hj
              · cases hj
          have hh : headU mark low high s = lineHd mark low high (s.take i) := by
            unfold headU
            rw [hline, if_neg (by omega), Int.toNat_natCast]
          rw [hh]
          by_cases h2 : i < 2
          · have hbad : lineHd mark low high (s.take i) = .bad := by
              rcases (by omega : i = 0 ∨ i = 1) with rfl | rfl
              · rfl
              · cases s with
                | nil => rfl
                | cons x s' =>
                  unfold lineHd
                  simp
            rw [hbad]
            refine Ev.step (f := fun k => tipstaffref06_head.j2 k b (a : Int) low high ((a + i : Nat) : Int) true) (fun k => ?_) (Ev.step (f := fun _ => some (0, -2)) (fun k => ?_) (Ev.now _))
            · simp only [tipstaffref06_head.j1]
              rw [if_pos trivial, if_pos (by omega), if_pos (by omega), hrd, if_pos (by rfl), w64 (by omega) (by omega), if_pos (by omega)]
            · simp only [tipstaffref06_head.j2]
              rw [if_pos trivial]
          · obtain ⟨m, hm, hrm⟩ := rdU hb a (by omega)
            have hsm : s[0]? = some m := by rw [hs, List.getElem?_drop]; exact hm
            obtain ⟨q, hq, hrq⟩ := rdU hb (a + i - 1) (by omega)
            have hsq : s[i - 1]? = some q := by rw [hs, List.getElem?_drop, show a + (i - 1) = a + i - 1 by omega]; exact hq
            rw [lineHd_eq mark low high s i (by omega) (by omega) m hsm q hsq]
            have e1 : ((a + i : Nat) : Int) - 1 = ((a + i - 1 : Nat) : Int) := by omega
            by_cases hq13 : q = 13
            · subst hq13
              by_cases hmm : m = mark
              · subst hmm
                refine Ev.step (f := fun k => tipstaffref06_head.j2 k b (a : Int) low high ((a + i : Nat) : Int) false) (fun k => ?_) ?_
                · simp only [tipstaffref06_head.j1]
                  rw [if_pos trivial, if_pos (by omega), if_pos (by omega), hrd, if_pos (by rfl), w64 (by omega) (by omega), if_neg (by omega), w64 (by omega) (by omega), if_pos (by omega), if_pos (by omega), e1, hrq, if_pos (by rfl), if_pos (by omega), if_pos (by omega), hrm]
                  simp
                · refine head_j2 b a i low high hl (by omega) (by omega) (by omega) hlen _ ?_
                  rw [← hs]
                  generalize parseB ⟨((s.take (i - 1)).drop 1).toArray⟩ = p
                  by_cases hp : p.2 = true ∧ low ≤ p.1 ∧ p.1 ≤ high
                  · rw [if_pos ⟨rfl, rfl, hp⟩, if_pos hp]
                    show ((p.1.toNat : Int), _) = _
                    rw [Int.toNat_of_nonneg (by omega)]
                  · rw [if_neg (fun h => hp h.2.2), if_neg hp]
                    rfl
              · rw [if_neg (fun h => hmm h.1)]
                refine Ev.step (f := fun k => tipstaffref06_head.j2 k b (a : Int) low high ((a + i : Nat) : Int) true) (fun k => ?_) (Ev.step (f := fun _ => some (0, -2)) (fun k => ?_) (Ev.now _))
                · simp only [tipstaffref06_head.j1]
                  rw [if_pos trivial, if_pos (by omega), if_pos (by omega), hrd, if_pos (by rfl), w64 (by omega) (by omega), if_neg (by omega), w64 (by omega) (by omega), if_pos (by omega), if_pos (by omega), e1, hrq, if_pos (by rfl), if_pos (by omega), if_pos (by omega), hrm]
                  have : ((m.toNat : Int) != (mark.toNat : Int)) = true := by
                    rw [bne_iff_ne]
                    intro h
                    exact hmm (UInt8.toNat_inj.1 (by omega))
                  rw [this]
                · simp only [tipstaffref06_head.j2]
                  rw [if_pos trivial]
            · rw [if_neg (fun h => hq13 h.2.1)]
              refine Ev.step (f := fun k => tipstaffref06_head.j2 k b (a : Int) low high ((a + i : Nat) : Int) true) (fun k => ?_) (Ev.step (f := fun _ => some (0, -2)) (fun k => ?_) (Ev.now _))
              · simp only [tipstaffref06_head.j1]
                have h13 : ¬ (q.toNat : Int) = 13 := fun h => hq13 (by have := (byteI (c := q) 13 (by decide)).1 h; exact this)
                rw [if_pos trivial, if_pos (by omega), if_pos (by omega), hrd, if_pos (by rfl), w64 (by omega) (by omega), if_neg (by omega), w64 (by omega) (by omega), if_pos (by omega), if_pos (by omega), e1, hrq, if_neg h13]
              · simp only [tipstaffref06_head.j2]
                rw [if_pos trivial]
        · refine Ev.step (f := fun k => tipstaffref06_head.l0 k b (a : Int) (mark.toNat : Int) low high ((a + (i + 1) : Nat) : Int)) (fun k => ?_) (ih (i + 1) (by omega) (by omega) (by omega) (fun j hj => ?_))
          · simp only [tipstaffref06_head.j1]
            have hn10 : ¬ (c.toNat : Int) = 10 := fun h => h10 (by have := (byteI (c := c) 10 (by decide)).1 h; exact this)
            rw [if_pos trivial, if_pos (by omega), if_pos (by omega), hrd, if_neg hn10, w64 (by omega) (by omega)]
            congr 1
          · rcases (by omega : j < i ∨ j = i) with h | rfl
            · exact hno j h
            · rw [hsc]
              intro h
              exact h10 (Option.some.inj h)
    · have hneg : lineU s < 0 := by
        refine Int.not_le.1 fun h => ?_
        obtain ⟨o, ho⟩ := Int.eq_ofNat_of_zero_le h
        have h1 := (Lib.indexByte_some (show Lib.indexByte (s.take 16) 10 = o from ho)).1
        rw [List.getElem?_take] at h1
        split at h1
        · have := (List.getElem?_eq_some_iff.1 h1).1
          exact hno o (by omega) h1
        · cases h1
      have hr : headU mark low high s = .short := by unfold headU; rw [if_pos hneg, if_pos (by omega)]
      rw [hr]
      refine Ev.step (f := fun k => tipstaffref06_head.j1 k b (a : Int) (mark.toNat : Int) low high ((a + i : Nat) : Int) false) (fun k => ?_) ?_
      · simp only [tipstaffref06_head.l0]
        rw [if_neg (by omega)]
      · refine Ev.step (f := fun _ => some (0, -1)) (fun k => ?_) (Ev.now _)
        simp only [tipstaffref06_head.j1]
        rw [if_neg (by decide), w64 (by omega) (by omega), if_neg (by omega)]

theorem head_ev (b : List Int) (hb : Byt b) (hlen : b.length ≤ 2000) (a : Nat) (ha : a ≤ b.length) (mark : UInt8) (low high : Int) (hl : 0 ≤ low) :
    Ev (fun k => tipstaffref06_head.f k b (a : Int) (mark.toNat : Int) low high) (hdR a (headU mark low high ((U b).drop a))) :=
  head_run b hb hlen a ha mark low high hl 16 0 rfl (by omega) (by omega) (fun j hj => by omega)
end Go.Proofs.YtmbfapgamcbajaaDoor.X
namespace Go.Proofs.YtmbfapgamcbajaaDoor.X
open Go.RowKit Go.Proofs.YtmbfapgamcbajaaDoorW.PrintWords

theorem two_at (s : List UInt8) (k : Nat) (h : k + 2 ≤ s.length) (c d : UInt8) (hc : s[k]? = some c) (hd : s[k + 1]? = some d) : (s.drop k).take 2 = [c, d] := by
  have h0 : k < s.length := by omega
  have h1 : k + 1 < s.length := by omega
  rw [List.drop_eq_getElem_cons h0, List.drop_eq_getElem_cons h1]
  rw [List.getElem?_eq_getElem h0] at hc
  rw [List.getElem?_eq_getElem h1] at hd
  rw [Option.some.inj hc, Option.some.inj hd]
  rfl

theorem j2_ev (a : Nat) (l : List ByteArray) : Ev (fun k => tipstaffref06_row.j2 k (a : Int) l) (l, (a : Int), 0) := by
  refine Ev.step (f := fun _ => some (l, (a : Int), 0)) (fun k => ?_) (Ev.now _)
  simp only [tipstaffref06_row.j2]
  rw [if_neg (by omega), if_neg (by omega)]
theorem j2_short (l : List ByteArray) : Ev (fun k => tipstaffref06_row.j2 k (-1) l) ([], 0, 0) := by
  refine Ev.step (f := fun _ => some ([], 0, 0)) (fun k => ?_) (Ev.now _)
  simp only [tipstaffref06_row.j2]
  rw [if_pos trivial]
theorem j2_bad (l : List ByteArray) : Ev (fun k => tipstaffref06_row.j2 k (-2) l) ([], 0, 10) := by
  refine Ev.step (f := fun _ => some ([], 0, 10)) (fun k => ?_) (Ev.now _)
  simp only [tipstaffref06_row.j2]
  rw [if_neg (by decide), if_pos trivial]

theorem row_run (b : List Int) (hb : Byt b) (hlen : b.length ≤ 2000) (n : Nat) (hn : n ≤ 32) :
    ∀ left i a : Nat, i + left = n → 0 < a → a ≤ b.length → ∀ l : List ByteArray, l.length ≤ i → Ev (fun k => tipstaffref06_row.l0 k b (n : Int) (a : Int) l (i : Int)) (rowU left ((U b).drop a) a l) := by
  intro left
  induction left with
  | zero =>
    intro i a hi ha hab l hl
    refine Ev.step (f := fun k => tipstaffref06_row.j1 k b (n : Int) (a : Int) l (i : Int) false) (fun k => ?_) (Ev.step (f := fun k => tipstaffref06_row.j2 k (a : Int) l) (fun k => ?_) (j2_ev a l))
    · simp only [tipstaffref06_row.l0]
      rw [if_neg (by omega)]
    · simp only [tipstaffref06_row.j1]
      rw [if_neg (by decide)]
  | succ left ih =>
    intro i a hi ha hab l hl
    have hh := head_ev b hb hlen a hab 36 0 512 (by decide)
    obtain ⟨s, hs⟩ : ∃ s, s = (U b).drop a := ⟨_, rfl⟩
    have hsl : s.length = b.length - a := by rw [hs, List.length_drop, U_len]
    have e36 : ((36 : UInt8).toNat : Int) = 36 := rfl
    rw [← hs, e36] at hh
    rw [← hs]
    unfold rowU
    have hgo : ∀ r, Ev (fun k => tipstaffref06_row.j1 k b (n : Int) (a : Int) l (i : Int) true) r → Ev (fun k => tipstaffref06_row.l0 k b (n : Int) (a : Int) l (i : Int)) r := by
      intro r hr
      refine Ev.step (f := fun k => tipstaffref06_row.j1 k b (n : Int) (a : Int) l (i : Int) true) (fun k => ?_) hr
      simp only [tipstaffref06_row.l0]
      rw [if_pos (by omega), decide_eq_true (by omega)]
    refine hgo _ ?_
    have hstep : ∀ r, Ev (fun k => (tipstaffref06_head.f k b (a : Int) 36 0 512).bind fun bt150 => (if bt150.2 < 0 then (tipstaffref06_row.j2 k bt150.2 l) else (if (wrap64 ((b.length : Int) - bt150.2)) < (wrap64 (bt150.1 + 2)) then (tipstaffref06_row.j2 k (-1) l) else (if 0 ≤ (wrap64 (bt150.2 + bt150.1)) then (if (wrap64 (bt150.2 + bt150.1)) < (b.length : Int) then (if (rd b (wrap64 (bt150.2 + bt150.1))) = 13 then (if 0 ≤ (wrap64 ((wrap64 (bt150.2 + bt150.1)) + 1)) then (if (wrap64 ((wrap64 (bt150.2 + bt150.1)) + 1)) < (b.length : Int) then (if (rd b (wrap64 ((wrap64 (bt150.2 + bt150.1)) + 1))) = 10 then (if 0 ≤ bt150.2 then (if bt150.2 ≤ (wrap64 (bt150.2 + bt150.1)) then (if (wrap64 (bt150.2 + bt150.1)) ≤ (b.length : Int) then (if l.length < 8796093022208 then (tipstaffref06_row.l0 k b (n : Int) (wrap64 ((wrap64 (bt150.2 + bt150.1)) + 2)) (l ++ [strOfNums ((b.take ((wrap64 (bt150.2 + bt150.1)) : Int).toNat).drop (bt150.2 : Int).toNat)]) (wrap64 ((i : Int) + 1))) else (none)) else (none)) else (none)) else (none)) else (tipstaffref06_row.j2 k (-2) l)) else (none)) else (none)) else (tipstaffref06_row.j2 k (-2) l)) else (none)) else (none))))) r → Ev (fun k => tipstaffref06_row.j1 k b (n : Int) (a : Int) l (i : Int) true) r := by
      intro r hr
      refine Ev.step (fun k => ?_) hr
      simp only [tipstaffref06_row.j1]
      rw [if_pos trivial]
    refine hstep _ ?_
    cases hd : headU 36 0 512 s with
    | short =>
      rw [hd] at hh
      exact Ev.bind hh (Ev.congr (fun k => by rw [if_pos (show (hdR a Hd.short).2 < 0 from (by decide : (-1 : Int) < 0))]; rfl) (j2_short l))
    | bad =>
      rw [hd] at hh
      exact Ev.bind hh (Ev.congr (fun k => by rw [if_pos (show (hdR a Hd.bad).2 < 0 from (by decide : (-2 : Int) < 0))]; rfl) (j2_bad l))
    | ok kk nn =>
      rw [hd] at hh
      obtain ⟨h1, h2, h3⟩ := head_n hd
      have h4 := (head_k hd (by decide)).2
      refine Ev.bind hh ?_
      have e1 : (hdR a (.ok kk nn)).1 = (kk : Int) := rfl
      have e2 : (hdR a (.ok kk nn)).2 = ((a + nn : Nat) : Int) := rfl
      simp only
      rw [e1, e2]
      have e3 : ((a + nn : Nat) : Int) + (kk : Int) = ((a + nn + kk : Nat) : Int) := by omega
      have e4 : ((a + nn + kk : Nat) : Int) + 1 = ((a + nn + kk + 1 : Nat) : Int) := by omega
      by_cases hsh : s.length < nn + kk + 2
      · rw [if_pos hsh]
        refine Ev.congr (fun k => ?_) (j2_short l)
        rw [if_neg (by omega), w64 (by omega) (by omega), w64 (by omega) (by omega), if_pos (by omega)]
      · rw [if_neg hsh]
        obtain ⟨c, hc, hrc⟩ := rdU hb (a + nn + kk) (by omega)
        obtain ⟨d, hdd, hrd⟩ := rdU hb (a + nn + kk + 1) (by omega)
        have hsc : (s.drop nn)[kk]? = some c := by rw [hs, List.drop_drop, List.getElem?_drop]; exact hc
        have hsd : (s.drop nn)[kk + 1]? = some d := by rw [hs, List.drop_drop, List.getElem?_drop]; exact hdd
        have htw := two_at (s.drop nn) kk (by rw [List.length_drop]; omega) c d hsc hsd
        rw [htw]
        have hT : strOfNums ((b.take (a + nn + kk)).drop (a + nn)) = ⟨((s.drop nn).take kk).toArray⟩ := by
          rw [nums_mk, U_drop, U_take, hs, List.drop_drop]
          congr 2
          rw [List.drop_take]
          congr 1
          omega
        have t1 : (((a + nn + kk : Nat) : Int)).toNat = a + nn + kk := by omega
        have t2 : (((a + nn : Nat) : Int)).toNat = a + nn := by omega
        by_cases h13 : c = 13
        · by_cases h10 : d = 10
          · subst h13 h10
            rw [if_pos rfl]
            have ih' := ih (i + 1) (a + nn + kk + 2) (by omega) (by omega) (by omega) (l ++ [⟨((s.drop nn).take kk).toArray⟩]) (by simp; omega)
            have e5 : (U b).drop (a + nn + kk + 2) = (s.drop nn).drop (kk + 2) := by rw [hs, List.drop_drop, List.drop_drop]; congr 1; omega
            rw [e5] at ih'
            refine Ev.congr (fun k => ?_) ih'
            rw [if_neg (by omega), w64 (by omega) (by omega), w64 (by omega) (by omega), if_neg (by omega), e3, w64 (by omega) (by omega), e4, w64 (by omega) (by omega), if_pos (by omega), if_pos (by omega), hrc, if_pos (by rfl), if_pos (by omega), if_pos (by omega), hrd, if_pos (by rfl), if_pos (by omega), if_pos (by omega), if_pos (by omega), if_pos (by omega), t1, t2, hT, w64 (by omega) (by omega), w64 (by omega) (by omega)]
            congr 1
          · have hn : ¬ [c, d] = [13, 10] := by simp [h10]
            rw [if_neg hn]
            have hd10 : ¬ (d.toNat : Int) = 10 := fun h => h10 ((byteI (c := d) 10 (by decide)).1 h)
            subst h13
            refine Ev.congr (fun k => ?_) (j2_bad l)
            rw [if_neg (by omega), w64 (by omega) (by omega), w64 (by omega) (by omega), if_neg (by omega), e3, w64 (by omega) (by omega), e4, w64 (by omega) (by omega), if_pos (by omega), if_pos (by omega), hrc, if_pos (by rfl), if_pos (by omega), if_pos (by omega), hrd, if_neg hd10]
        · have hn : ¬ [c, d] = [13, 10] := by simp [h13]
          rw [if_neg hn]
          have hc13 : ¬ (c.toNat : Int) = 13 := fun h => h13 ((byteI (c := c) 13 (by decide)).1 h)
          refine Ev.congr (fun k => ?_) (j2_bad l)
          rw [if_neg (by omega), w64 (by omega) (by omega), w64 (by omega) (by omega), if_neg (by omega), e3, w64 (by omega) (by omega), if_pos (by omega), if_pos (by omega), hrc, if_neg hc13]

theorem row_ev (b : List Int) (hb : Byt b) (hlen : b.length ≤ 2000) : Ev (fun k => tipstaffref06_row.f k b) (rowTop (U b)) := by
  have hh := head_ev b hb hlen 0 (by omega) 42 1 32 (by decide)
  have e42 : ((42 : UInt8).toNat : Int) = 42 := rfl
  rw [List.drop_zero, e42] at hh
  unfold tipstaffref06_row.f rowTop
  refine Ev.bind hh ?_
  cases hd : headU 42 1 32 (U b) with
  | short =>
    refine Ev.step (f := fun k => tipstaffref06_row.j1 k b 0 (-1) [] 0 false) (fun k => ?_) (Ev.step (f := fun k => tipstaffref06_row.j2 k (-1) []) (fun k => ?_) (j2_short []))
    · show tipstaffref06_row.l0 (k + 1) b 0 _ [] 0 = _
      simp only [tipstaffref06_row.l0]
      split
      · omega
      · rfl
    · simp only [tipstaffref06_row.j1]
      rw [if_neg (by decide)]
  | bad =>
    refine Ev.step (f := fun k => tipstaffref06_row.j1 k b 0 (-2) [] 0 false) (fun k => ?_) (Ev.step (f := fun k => tipstaffref06_row.j2 k (-2) []) (fun k => ?_) (j2_bad []))
    · show tipstaffref06_row.l0 (k + 1) b 0 _ [] 0 = _
      simp only [tipstaffref06_row.l0]
      split
      · omega
      · rfl
    · simp only [tipstaffref06_row.j1]
      rw [if_neg (by decide)]
  | ok kk nn =>
    obtain ⟨h1, h2, h3⟩ := head_n hd
    have h4 := (head_k hd (by decide)).2
    rw [U_len] at h1
    have := row_run b hb hlen kk (by omega) kk 0 nn (by omega) (by omega) h1 [] (by simp)
    refine Ev.congr (fun k => ?_) this
    simp [hdR]

theorem words_ev (b : List Int) (hb : Byt b) (hlen : b.length ≤ 2000) : ∀ d i : Nat, b.length - i = d → i ≤ b.length → ∀ (out : List ByteArray) (word : ByteArray), out.length ≤ i → word.size ≤ i →
    Ev (fun k => tipstaffref06_words.l0 k b out word (i : Int)) (out ++ wordsU word.data.toList ((U b).drop i)) := by
  intro d
  induction d with
  | zero =>
    intro i hd hi out word ho hw
    obtain rfl : i = b.length := by omega
    have he : (U b).drop b.length = [] := List.drop_eq_nil_of_le (by rw [U_len]; omega)
    rw [he]
    refine Ev.step (f := fun k => tipstaffref06_words.j1 k b out word (b.length : Int) false) (fun k => ?_) ?_
    · simp only [tipstaffref06_words.l0]
      rw [if_pos (by omega), if_neg (by omega)]
    · by_cases hw0 : word.toList = []
      · have hd0 : word.data.toList = [] := by rw [← toList_data]; exact hw0
        rw [hd0]
        refine Ev.step (f := fun k => tipstaffref06_words.l0 k b out ⟨#[]⟩ ((b.length : Int) + 1)) (fun k => ?_) (Ev.step (f := fun _ => some (out ++ wordsU [] [])) (fun k => ?_) (Ev.now _))
        · simp only [tipstaffref06_words.j1]
          rw [if_neg (by decide), if_pos hw0, w64 (by omega) (by omega)]
        · simp only [tipstaffref06_words.l0]
          rw [if_neg (by omega)]
          simp [wordsU]
      · have hd0 : word.data.toList ≠ [] := by rw [← toList_data]; exact hw0
        refine Ev.step (f := fun k => tipstaffref06_words.l0 k b (out ++ [word]) ⟨#[]⟩ ((b.length : Int) + 1)) (fun k => ?_) (Ev.step (f := fun _ => some (out ++ wordsU word.data.toList [])) (fun k => ?_) (Ev.now _))
        · simp only [tipstaffref06_words.j1]
          rw [if_neg (by decide), if_neg hw0, if_pos (by omega), w64 (by omega) (by omega)]
        · simp only [tipstaffref06_words.l0]
          rw [if_neg (by omega)]
          simp only [wordsU]
          rw [if_neg hd0, mk_data]
  | succ d ih =>
    intro i hd hi out word ho hw
    have hlt : i < b.length := by omega
    obtain ⟨c, hc, hrc⟩ := rdU hb i hlt
    have hUl : i < (U b).length := by rw [U_len]; exact hlt
    have hcc : (U b)[i] = c := by rw [List.getElem?_eq_getElem hUl] at hc; exact Option.some.inj hc
    rw [List.drop_eq_getElem_cons hUl, hcc]
    have e1 : (i : Int) + 1 = ((i + 1 : Nat) : Int) := by omega
    by_cases h32 : c = 32
    · subst h32
      refine Ev.step (f := fun k => tipstaffref06_words.j1 k b out word (i : Int) false) (fun k => ?_) ?_
      · simp only [tipstaffref06_words.l0]
        rw [if_pos (by omega), if_pos (by omega), if_pos (by omega), hrc]
        rfl
      · by_cases hw0 : word.toList = []
        · have hd0 : word.data.toList = [] := by rw [← toList_data]; exact hw0
          rw [hd0]
          have ih' := ih (i + 1) (by omega) (by omega) out ⟨#[]⟩ (by omega) (by show 0 ≤ _; omega)
          refine Ev.step (f := fun k => tipstaffref06_words.l0 k b out ⟨#[]⟩ ((i + 1 : Nat) : Int)) (fun k => ?_) ?_
          · simp only [tipstaffref06_words.j1]
            rw [if_neg (by decide), if_pos hw0, w64 (by omega) (by omega), e1]
          · conv => rhs; rw [wordsU]
            rw [if_pos rfl, if_pos rfl]
            exact ih'
        · have hd0 : word.data.toList ≠ [] := by rw [← toList_data]; exact hw0
          have ih' := ih (i + 1) (by omega) (by omega) (out ++ [word]) ⟨#[]⟩ (by simp; omega) (by show 0 ≤ _; omega)
          refine Ev.step (f := fun k => tipstaffref06_words.l0 k b (out ++ [word]) ⟨#[]⟩ ((i + 1 : Nat) : Int)) (fun k => ?_) ?_
          · simp only [tipstaffref06_words.j1]
            rw [if_neg (by decide), if_neg hw0, if_pos (by omega), w64 (by omega) (by omega), e1]
          · conv => rhs; rw [wordsU]
            rw [if_pos rfl, if_neg hd0, mk_data]
            simpa using ih'
    · have hne : ((c.toNat : Int) != 32) = true := by
        rw [bne_iff_ne]
        exact fun h => h32 ((byteI (c := c) 32 (by decide)).1 h)
      have hone : strOfNums ((b.take (i + 1)).drop i) = ⟨#[c]⟩ := by
        rw [nums_mk, U_drop, U_take, List.take_succ_eq_append_getElem hUl, hcc, List.drop_append_of_le_length (by rw [List.length_take]; omega), List.drop_eq_nil_of_le (by rw [List.length_take]; omega)]
        rfl
      have hsz : (word ++ (⟨#[c]⟩ : ByteArray)).size = word.size + 1 := by rw [app_sizeR]; rfl
      have ih' := ih (i + 1) (by omega) (by omega) out (word ++ ⟨#[c]⟩) (by omega) (by rw [hsz]; omega)
      rw [app_data, one_data] at ih'
      refine Ev.step (f := fun k => tipstaffref06_words.j1 k b out word (i : Int) true) (fun k => ?_) (Ev.step (f := fun k => tipstaffref06_words.l0 k b out (word ++ ⟨#[c]⟩) ((i + 1 : Nat) : Int)) (fun k => ?_) ?_)
      · simp only [tipstaffref06_words.l0]
        rw [if_pos (by omega), if_pos (by omega), if_pos (by omega), hrc, hne]
      · simp only [tipstaffref06_words.j1]
        rw [if_pos trivial, if_pos (by omega), w64 (by omega) (by omega), if_pos (by omega), if_pos (by omega), e1]
        simp only [Int.toNat_natCast]
        have o1 : (⟨#[c]⟩ : ByteArray).size = 1 := rfl
        rw [hone, if_pos (by rw [o1]; omega)]
      · conv => rhs; rw [wordsU]
        rw [if_neg h32]
        exact ih'
end Go.Proofs.YtmbfapgamcbajaaDoor.X
namespace Go.Proofs.YtmbfapgamcbajaaDoor.X
open Go.RowKit Go.Proofs.YtmbfapgamcbajaaDoorW.PrintWords

theorem words_of (b : List Int) (hb : Byt b) (hlen : b.length ≤ 2000) : Ev (fun k => tipstaffref06_words.f k b) (wordsU [] (U b)) := by
  have h := words_ev b hb hlen _ 0 rfl (by omega) [] ⟨#[]⟩ (by simp) (by show 0 ≤ 0; omega)
  rw [List.drop_zero] at h
  simp only [List.nil_append] at h
  exact h

theorem trim_last (s : List UInt8) : Lib.trimSuffix s [13] = if s.getLast? = some 13 then s.dropLast else s := by
  unfold Lib.trimSuffix
  cases hs : s.reverse with
  | nil =>
    have : s = [] := by simpa using hs
    subst this
    rfl
  | cons x r =>
    have : s = r.reverse ++ [x] := by rw [← List.reverse_reverse s, hs, List.reverse_cons]
    subst this
    by_cases h : x = 13
    · subst h
      simp [Lib.hasSuffix]
    · simp [Lib.hasSuffix, h]
      exact fun h' => h h'.symm

theorem line_run (b : List Int) (hb : Byt b) (hlen : b.length ≤ 2000) : ∀ d i : Nat, 600 - i = d → i ≤ 600 → i ≤ b.length → (∀ j, j < i → (U b)[j]? ≠ some 10) → (hne : (U b).head? ≠ some 42) →
    Ev (fun k => tipstaffref06_Next.l0 k b (i : Int)) (nextU (U b)) := by
  intro d
  induction d with
  | zero =>
    intro i hd hi hib hno hne
    have hi6 : i = 600 := by omega
    subst hi6
    have hneg : Lib.indexByte ((U b).take 600) 10 < 0 := by
      refine Int.not_le.1 fun h => ?_
      obtain ⟨o, ho⟩ := Int.eq_ofNat_of_zero_le h
      have h1 := (Lib.indexByte_some ho).1
      rw [List.getElem?_take] at h1
      split at h1
      · exact hno o (by assumption) h1
      · cases h1
    have hr : nextU (U b) = ([], 0, 10) := by unfold nextU; rw [if_neg hne, if_pos hneg, if_neg (by rw [U_len]; omega)]
    rw [hr]
    refine Ev.step (f := fun k => tipstaffref06_Next.j2 k b ((600 : Nat) : Int) false) (fun k => ?_) (Ev.step (f := fun _ => some ([], 0, 10)) (fun k => ?_) (Ev.now _))
    · simp only [tipstaffref06_Next.l0]
      split
      · rw [decide_eq_false (by omega)]
      · rfl
    · simp only [tipstaffref06_Next.j2]
      rw [if_neg (by decide), if_pos (by omega)]
  | succ d ih =>
    intro i hd hi hib hno hne
    by_cases hlt : i < b.length
    · obtain ⟨c, hc, hrc⟩ := rdU hb i hlt
      refine Ev.step (f := fun k => tipstaffref06_Next.j2 k b (i : Int) true) (fun k => ?_) ?_
      · simp only [tipstaffref06_Next.l0]
        rw [if_pos (by omega), decide_eq_true (by omega)]
      · by_cases h10 : c = 10
        · subst h10
          have hline : Lib.indexByte ((U b).take 600) 10 = i := by
            have h3 : ((U b).take 600)[i]? = some 10 := by rw [List.getElem?_take, if_pos (by omega)]; exact hc
            have h4 := (List.getElem?_eq_some_iff.1 h3)
            have h1 : (U b).take 600 = (U b).take i ++ 10 :: (((U b).take 600).drop (i + 1)) := by
              rw [← h4.2, List.getElem_cons_drop]
              have e : (U b).take i = ((U b).take 600).take i := by rw [List.take_take]; congr 1; omega
              rw [e, List.take_append_drop]
            rw [h1, idx_put]
            · rw [List.length_take, U_len]; omega
            · intro x hx
              rintro rfl
              obtain ⟨j, hj⟩ := List.getElem?_of_mem hx
              rw [List.getElem?_take] at hj
              split at hj
              · exact hno j (by assumption) hj
              · cases hj
          have hr : nextU (U b) = if 32 < (wordsU [] (Lib.trimSuffix ((U b).take i) [13])).length then ([], 0, 10) else (wordsU [] (Lib.trimSuffix ((U b).take i) [13]), (i : Int) + 1, 0) := by
            unfold nextU
            rw [if_neg hne, hline, if_neg (by omega), Int.toNat_natCast]
          rw [hr]
          have hend : ∀ n : Nat, n ≤ i → Lib.trimSuffix ((U b).take i) [13] = (U b).take n → Ev (fun k => (tipstaffref06_words.f k (b.take n)).bind fun t179 => (if (t179.length : Int) > 32 then (some (([] : List ByteArray), (0 : Int), (10 : Int))) else (some (t179, wrap64 ((i : Int) + 1), (0 : Int))))) (if 32 < (wordsU [] (Lib.trimSuffix ((U b).take i) [13])).length then ([], 0, 10) else (wordsU [] (Lib.trimSuffix ((U b).take i) [13]), (i : Int) + 1, 0) : Rq) := by
            intro n hn he
            rw [he, ← U_take]
            refine Ev.bind (words_of (b.take n) (fun x hx => hb x (List.mem_of_mem_take hx)) (by rw [List.length_take]; omega)) ?_
            refine Ev.congr (f := fun _ => some _) (fun k => ?_) (Ev.now _)
            rw [w64 (by omega) (by omega)]
            by_cases h : 32 < (wordsU [] (U (b.take n))).length
            · rw [if_pos (by omega), if_pos h]
            · rw [if_neg (by omega), if_neg h]
          by_cases hi0 : i = 0
          · subst hi0
            refine Ev.step (f := fun k => tipstaffref06_Next.j3 k b ((0 : Nat) : Int) ((0 : Nat) : Int) false) (fun k => ?_) (Ev.step (f := fun k => (tipstaffref06_words.f k (b.take 0)).bind fun t179 => (if (t179.length : Int) > 32 then (some (([] : List ByteArray), (0 : Int), (10 : Int))) else (some (t179, wrap64 (((0 : Nat) : Int) + 1), 0)))) (fun k => ?_) (hend 0 (by omega) (by rw [List.take_zero]; rfl)))
            · simp only [tipstaffref06_Next.j2]
              rw [if_pos trivial, if_pos (by omega), if_pos (by omega), hrc, if_pos (by rfl), if_neg (by omega)]
            · simp only [tipstaffref06_Next.j3]
              rw [if_neg (by decide), if_pos (by omega), if_pos (by omega)]
              rfl
          · obtain ⟨q, hq, hrq⟩ := rdU hb (i - 1) (by omega)
            have e1 : (i : Int) - 1 = ((i - 1 : Nat) : Int) := by omega
            have hgl : ((U b).take i).getLast? = some q := by
              rw [List.getLast?_eq_getElem?, List.length_take, U_len, List.getElem?_take, if_pos (by omega), ← hq]
              congr 1
              omega
            by_cases h13 : q = 13
            · subst h13
              refine Ev.step (f := fun k => tipstaffref06_Next.j3 k b (i : Int) (i : Int) true) (fun k => ?_) (Ev.step (f := fun k => (tipstaffref06_words.f k (b.take (i - 1))).bind fun t179 => (if (t179.length : Int) > 32 then (some (([] : List ByteArray), (0 : Int), (10 : Int))) else (some (t179, wrap64 (((i : Nat) : Int) + 1), 0)))) (fun k => ?_) (hend (i - 1) (by omega) ?_))
              · simp only [tipstaffref06_Next.j2]
                rw [if_pos trivial, if_pos (by omega), if_pos (by omega), hrc, if_pos (by rfl), if_pos (by omega), w64 (by omega) (by omega), e1, if_pos (by omega), if_pos (by omega), hrq]
                rfl
              · simp only [tipstaffref06_Next.j3]
                rw [if_pos trivial, w64 (by omega) (by omega), e1, if_pos (by omega), if_pos (by omega)]
                rfl
              · rw [trim_last, if_pos hgl, List.dropLast_eq_take, List.length_take, List.take_take, U_len]
                congr 1
                omega
            · have hn : ((q.toNat : Int) == 13) = false := by
                rw [beq_eq_false_iff_ne]
                exact fun h => h13 ((byteI (c := q) 13 (by decide)).1 h)
              refine Ev.step (f := fun k => tipstaffref06_Next.j3 k b (i : Int) (i : Int) false) (fun k => ?_) (Ev.step (f := fun k => (tipstaffref06_words.f k (b.take i)).bind fun t179 => (if (t179.length : Int) > 32 then (some (([] : List ByteArray), (0 : Int), (10 : Int))) else (some (t179, wrap64 (((i : Nat) : Int) + 1), 0)))) (fun k => ?_) (hend i (by omega) ?_))
              · simp only [tipstaffref06_Next.j2]
                rw [if_pos trivial, if_pos (by omega), if_pos (by omega), hrc, if_pos (by rfl), if_pos (by omega), w64 (by omega) (by omega), e1, if_pos (by omega), if_pos (by omega), hrq, hn]
              · simp only [tipstaffref06_Next.j3]
                rw [if_neg (by decide), if_pos (by omega), if_pos (by omega)]
                rfl
              · rw [trim_last, if_neg (by rw [hgl]; exact fun h => h13 (Option.some.inj h))]
        · refine Ev.step (f := fun k => tipstaffref06_Next.l0 k b ((i + 1 : Nat) : Int)) (fun k => ?_) (ih (i + 1) (by omega) (by omega) (by omega) (fun j hj => ?_) hne)
          · simp only [tipstaffref06_Next.j2]
            have hn10 : ¬ (c.toNat : Int) = 10 := fun h => h10 (by have := (byteI (c := c) 10 (by decide)).1 h; exact this)
            rw [if_pos trivial, if_pos (by omega), if_pos (by omega), hrc, if_neg hn10, w64 (by omega) (by omega)]
            congr 1
          · rcases (by omega : j < i ∨ j = i) with h | rfl
            · exact hno j h
            · rw [hc]
              intro h
              exact h10 (Option.some.inj h)
    · have hneg : Lib.indexByte ((U b).take 600) 10 < 0 := by
        refine Int.not_le.1 fun h => ?_
        obtain ⟨o, ho⟩ := Int.eq_ofNat_of_zero_le h
        have h1 := (Lib.indexByte_some ho).1
        rw [List.getElem?_take] at h1
        split at h1
        · have := (List.getElem?_eq_some_iff.1 h1).1
          rw [U_len] at this
          exact hno o (by omega) h1
        · cases h1
      have hr : nextU (U b) = ([], 0, 0) := by unfold nextU; rw [if_neg hne, if_pos hneg, if_pos (by rw [U_len]; omega)]
      rw [hr]
      refine Ev.step (f := fun k => tipstaffref06_Next.j2 k b (i : Int) false) (fun k => ?_) (Ev.step (f := fun _ => some ([], 0, 0)) (fun k => ?_) (Ev.now _))
      · simp only [tipstaffref06_Next.l0]
        rw [if_neg (by omega)]
      · simp only [tipstaffref06_Next.j2]
        rw [if_neg (by decide), if_neg (by omega)]

theorem next_ev (b : List Int) (hb : Byt b) (hlen : b.length ≤ 2000) : Ev (fun k => tipstaffref06_Next.f k b) (nextU (U b)) := by
  have hline := fun hne => line_run b hb hlen 600 0 rfl (by omega) (by omega) (fun j hj => by omega) hne
  by_cases h0 : 0 < b.length
  · obtain ⟨c, hc, hrc⟩ := rdU hb 0 h0
    have hh : (U b).head? = some c := by rw [List.head?_eq_getElem?]; exact hc
    have hrc' : rd b 0 = (c.toNat : Int) := hrc
    by_cases h42 : c = 42
    · subst h42
      have hr : nextU (U b) = rowTop (U b) := by unfold nextU; rw [if_pos hh]
      rw [hr]
      refine Ev.congr (f := fun k => tipstaffref06_Next.j0 k b true) (fun k => ?_) (Ev.step (f := fun k => (tipstaffref06_row.f k b).bind fun bt167 => (some (bt167.1, bt167.2.1, bt167.2.2))) (fun k => ?_) (Ev.bind (row_ev b hb hlen) (Ev.now _)))
      · unfold tipstaffref06_Next.f
        rw [if_pos (by omega), if_pos (by omega), hrc']
        rfl
      · simp only [tipstaffref06_Next.j0]
        rw [if_pos trivial]
    · have hn : ((c.toNat : Int) == 42) = false := by
        rw [beq_eq_false_iff_ne]
        exact fun h => h42 ((byteI (c := c) 42 (by decide)).1 h)
      refine Ev.congr (f := fun k => tipstaffref06_Next.j0 k b false) (fun k => ?_) (Ev.step (f := fun k => tipstaffref06_Next.l0 k b ((0 : Nat) : Int)) (fun k => ?_) (hline (by rw [hh]; exact fun h => h42 (Option.some.inj h))))
      · unfold tipstaffref06_Next.f
        rw [if_pos (by omega), if_pos (by omega), hrc', hn]
      · simp only [tipstaffref06_Next.j0]
        rw [if_neg (by decide)]
        rfl
  · have he : b = [] := List.eq_nil_of_length_eq_zero (by omega)
    refine Ev.congr (f := fun k => tipstaffref06_Next.j0 k b false) (fun k => ?_) (Ev.step (f := fun k => tipstaffref06_Next.l0 k b ((0 : Nat) : Int)) (fun k => ?_) (hline (by rw [he]; simp [U, Go.Lib.bytesOf])))
    · unfold tipstaffref06_Next.f
      rw [if_neg (by omega)]
    · simp only [tipstaffref06_Next.j0]
      rw [if_neg (by decide)]
      rfl
end Go.Proofs.YtmbfapgamcbajaaDoor.X
