/- Records in plain words: a text's pieces, bytes as digits, and which text is a record; the document's and the program's are the same. -/
import Derived.Test.YtencimfeipglaaaDoorPNum3
import Derived.Test.YtencimfeipglaaaDoorERLib
import Derived.Test.YtencimfeipglaaaDoorXx22
import Derived.Test.YtencimfeipglaaaDoorXx3
set_option linter.unusedVariables false
set_option linter.unusedSimpArgs false
namespace Go.Proofs.YtencimfeipglaaaDoor.X
open Go.RowKit Go.Lib Go.Proofs.YtencimfeipglaaaDoorW.PrintWords

/-! Pieces. -/
def splitA (c : UInt8) (acc : List UInt8) : List UInt8 → List (List UInt8)
  | [] => [acc]
  | x :: r => if x = c then acc :: splitA c [] r else splitA c (acc ++ [x]) r
theorem splitA_none (c : UInt8) : ∀ (s acc : List UInt8), (∀ x ∈ s, x ≠ c) → splitA c acc s = [acc ++ s]
  | [], acc, _ => by simp [splitA]
  | x :: r, acc, h => by
    rw [splitA, if_neg (h x List.mem_cons_self), splitA_none c r _ (fun d hd => h d (List.mem_cons_of_mem _ hd))]
    simp
theorem splitA_some (c : UInt8) : ∀ (p r acc : List UInt8), (∀ x ∈ p, x ≠ c) → splitA c acc (p ++ c :: r) = (acc ++ p) :: splitA c [] r
  | [], r, acc, _ => by simp [splitA]
  | x :: p, r, acc, h => by
    rw [List.cons_append, splitA, if_neg (h x List.mem_cons_self), splitA_some c p r _ (fun d hd => h d (List.mem_cons_of_mem _ hd))]
    simp
theorem splitK_A (c : UInt8) : ∀ (k : Nat) (s : List UInt8), Lib.count s [c] = k → Lib.splitK [c] 0 k s = splitA c [] s := by
  intro k
  induction k with
  | zero =>
    intro s hc
    rw [Lib.count_one] at hc
    have hn : ∀ x ∈ s, x ≠ c := by
      intro x hcs e
      subst e
      have := List.count_pos_iff.2 hcs
      omega
    rw [splitA_none c s [] hn]
    unfold Lib.splitK
    simp
  | succ k ih =>
    intro s hc
    unfold Lib.splitK
    have hc' := hc
    rw [Lib.count_one] at hc'
    rw [Lib.index_one]
    have hmem : c ∈ s := List.count_pos_iff.1 (by omega)
    have hne : Lib.indexByte s c ≠ -1 := by
      intro e
      obtain ⟨i, hi⟩ := List.getElem?_of_mem hmem
      exact Lib.indexByte_none e i hi
    have hge := Lib.indexByte_ge s c
    obtain ⟨o, ho⟩ := Int.eq_ofNat_of_zero_le (show 0 ≤ Lib.indexByte s c by omega)
    obtain ⟨h1, h2⟩ := Lib.indexByte_some ho
    rw [if_neg (by rw [beq_iff_eq]; exact hne), ho]
    simp only [Int.toNat_natCast, Nat.add_zero, List.length_singleton]
    have hl := (List.getElem?_eq_some_iff.1 h1).1
    have hs : s = s.take o ++ c :: s.drop (o + 1) := by
      have h3 : s[o] = c := (List.getElem?_eq_some_iff.1 h1).2
      rw [← h3, List.getElem_cons_drop]
      exact (List.take_append_drop o s).symm
    have hp : ∀ x ∈ s.take o, x ≠ c := by
      intro x hcm e
      subst e
      obtain ⟨i, hi⟩ := List.getElem?_of_mem hcm
      rw [List.getElem?_take] at hi
      split at hi
      · exact h2 i (by assumption) hi
      · cases hi
    have hcd : Lib.count (s.drop (o + 1)) [c] = k := by
      rw [Lib.count_one]
      have : s.count c = (s.take o).count c + (1 + (s.drop (o + 1)).count c) := by
        conv => lhs; rw [hs]
        rw [List.count_append, List.count_cons_self]
        omega
      have h0 : (s.take o).count c = 0 := by
        rw [List.count_eq_zero]
        intro hm
        exact hp c hm rfl
      omega
    have hw := splitA_some c (s.take o) (s.drop (o + 1)) [] hp
    rw [← hs, List.nil_append] at hw
    rw [hw, ← ih _ hcd]
def mkB (l : List UInt8) : ByteArray := ⟨l.toArray⟩
theorem mkB_data (s : ByteArray) : mkB s.data.toList = s := mk_data s
theorem data_mkB (l : List UInt8) : (mkB l).data.toList = l := data_mk l
theorem mkB_size (l : List UInt8) : (mkB l).size = l.length := size_mk l
def pieces (c : UInt8) (s : ByteArray) : List ByteArray := (splitA c [] s.data.toList).map mkB
theorem split_f (c : UInt8) (s : ByteArray) (h : s.size < 4294967281) : strings_Split.f s ⟨#[c]⟩ = some (pieces c s) := by
  unfold strings_Split.f
  rw [if_pos ⟨h, rfl⟩]
  have h1 := Lib.splitB_data ⟨#[c]⟩ 0 (Lib.countB s ⟨#[c]⟩) s
  have hc : Lib.countB s ⟨#[c]⟩ = Lib.count s.data.toList [c] := rfl
  rw [hc] at h1 ⊢
  have h2 : Lib.splitK [c] 0 (Lib.count s.data.toList [c]) s.data.toList = splitA c [] s.data.toList := splitK_A c _ _ rfl
  have h3 : (Lib.splitB ⟨#[c]⟩ 0 (Lib.count s.data.toList [c]) s).map (·.data.toList) = splitA c [] s.data.toList := h1.trans h2
  unfold pieces
  rw [← h3, List.map_map]
  congr 1
  conv => lhs; rw [← List.map_id (Lib.splitB _ _ _ _)]
  apply List.map_congr_left
  intro x _
  exact (mkB_data x).symm

theorem splitA_len (c : UInt8) : ∀ (s acc : List UInt8), (splitA c acc s).length ≤ s.length + 1
  | [], acc => by simp [splitA]
  | x :: r, acc => by
    rw [splitA]
    split
    · have := splitA_len c r []; simp; omega
    · have := splitA_len c r (acc ++ [x]); simp; omega
theorem splitA_mem (c : UInt8) : ∀ (s acc : List UInt8), ∀ p ∈ splitA c acc s, p.length ≤ acc.length + s.length
  | [], acc, p, h => by simp [splitA] at h; subst h; simp
  | x :: r, acc, p, h => by
    rw [splitA] at h
    split at h
    · rcases List.mem_cons.1 h with rfl | h
      · simp
      · have := splitA_mem c r [] p h; simp at this ⊢; omega
    · have := splitA_mem c r (acc ++ [x]) p h; simp at this ⊢; omega
theorem pieces_mem {c : UInt8} {s p : ByteArray} (h : p ∈ pieces c s) : p.size ≤ s.size := by
  unfold pieces at h
  obtain ⟨l, hl, rfl⟩ := List.mem_map.1 h
  have := splitA_mem c _ _ l hl
  rw [mkB_size]
  simpa [size_data] using this

theorem rdOf_at (x : List ByteArray) (i : Nat) (h : i < x.length) : rdOf ByteArray.empty x (i : Int) = x[i] := by
  show x.getD (i : Int).toNat ByteArray.empty = x[i]
  rw [Int.toNat_natCast, List.getD_eq_getElem?_getD, List.getElem?_eq_getElem h]
  rfl
theorem byteI {c : UInt8} (n : Nat) (h : n < 256) : ((c.toNat : Int) = (n : Int)) ↔ c = UInt8.ofNat n := by
  constructor
  · intro e
    apply UInt8.toNat_inj.1
    rw [UInt8.toNat_ofNat']
    omega
  · rintro rfl
    rw [UInt8.toNat_ofNat']
    omega
theorem w64 {n : Int} (h0 : -1000000 ≤ n) (h1 : n ≤ 1000000) : wrap64 n = n := wrap_id ⟨by omega, by omega⟩
theorem ext_one (s : ByteArray) (i : Nat) (h : i < s.data.toList.length) : s.extract i (i + 1) = mkB [s.data.toList[i]] := by
  apply str_ext'
  rw [data_mkB, Lib.extract_data]
  rw [show i + 1 - i = 1 by omega, List.drop_eq_getElem_cons h]
  rfl
theorem b58 {c : UInt8} : ((c.toNat : Int) = 58) ↔ c = 58 := byteI 58 (by decide)
theorem set_last (out : List ByteArray) (a b : ByteArray) : (out ++ [a]).set out.length b = out ++ [b] := by
  rw [List.set_append_right _ _ (Nat.le_refl _)]
  simp

theorem parts_run (s : ByteArray) (hs : s.size ≤ 1000) : ∀ d i : Nat, s.size - i = d → i ≤ s.size → ∀ (out : List ByteArray) (acc : List UInt8), out.length ≤ i → acc.length ≤ i →
    Ev (fun n => tipstaffref03_parts.l0 n s (out ++ [mkB acc]) (i : Int)) (out ++ (splitA 58 acc (s.data.toList.drop i)).map mkB) := by
  intro d
  induction d with
  | zero =>
    intro i hd hi out acc _ _
    obtain rfl : i = s.size := by omega
    rw [List.drop_eq_nil_of_le (by rw [size_data]; omega)]
    refine Ev.step (f := fun _ => some (out ++ (splitA 58 acc []).map mkB)) (fun n => ?_) (Ev.now _)
    simp only [tipstaffref03_parts.l0]
    rw [if_neg (by omega)]
    rfl
  | succ d ih =>
    intro i hd hi out acc ho ha
    have hil : i < s.data.toList.length := by rw [size_data]; omega
    have hb : bt s (i : Int) = (s.data.toList[i].toNat : Int) := bt_data (List.getElem?_eq_getElem hil)
    have hw : wrap64 ((i : Int) + 1) = ((i + 1 : Nat) : Int) := by rw [w64 (by omega) (by omega)]; omega
    rw [List.drop_eq_getElem_cons hil, splitA]
    by_cases h58 : s.data.toList[i] = 58
    · rw [if_pos h58, List.map_cons]
      have := ih (i + 1) (by omega) (by omega) (out ++ [mkB acc]) [] (by simp; omega) (by simp)
      rw [show out ++ mkB acc :: (splitA 58 [] (s.data.toList.drop (i + 1))).map mkB = (out ++ [mkB acc]) ++ (splitA 58 [] (s.data.toList.drop (i + 1))).map mkB by simp]
      refine Ev.step (f := fun n => tipstaffref03_parts.l0 n s ((out ++ [mkB acc]) ++ [mkB []]) ((i + 1 : Nat) : Int)) (fun n => ?_) this
      simp only [tipstaffref03_parts.l0]
      rw [if_pos (by omega), if_pos (by omega), hb, hw, if_pos (b58.2 h58), if_pos (by simp; omega)]
      rfl
    · rw [if_neg h58]
      have := ih (i + 1) (by omega) (by omega) out (acc ++ [s.data.toList[i]]) (by omega) (by simp; omega)
      refine Ev.step (f := fun n => tipstaffref03_parts.l0 n s (out ++ [mkB (acc ++ [s.data.toList[i]])]) ((i + 1 : Nat) : Int)) (fun n => ?_) this
      simp only [tipstaffref03_parts.l0]
      have hlen : wrap64 (((out ++ [mkB acc]).length : Int) - 1) = (out.length : Int) := by rw [List.length_append, List.length_singleton, w64 (by omega) (by omega)]; omega
      rw [if_pos (by omega), if_pos (by omega), hb, hw, if_neg (fun h => h58 (b58.1 h)), hlen, if_pos (by omega), if_pos (by simp; omega), if_pos (by omega), if_pos (by omega)]
      simp only [Int.toNat_natCast]
      rw [rdOf_at _ _ (by simp), ext_one s i hil, set_last]
      have he : (out ++ [mkB acc])[out.length]'(by simp) = mkB acc := by simp
      rw [he]
      have hsz : (mkB acc).size + (mkB [s.data.toList[i]]).size ≤ 9223372036854775807 := by rw [mkB_size, mkB_size]; simp; omega
      rw [if_pos hsz]
      have hap : mkB acc ++ mkB [s.data.toList[i]] = mkB (acc ++ [s.data.toList[i]]) := by
        apply str_ext'
        rw [app_data, data_mkB, data_mkB, data_mkB]
      rw [hap]
theorem parts_ev (s : ByteArray) (hs : s.size ≤ 1000) : Ev (fun n => tipstaffref03_parts.f n s) (pieces 58 s) := by
  have h := parts_run s hs _ 0 rfl (by omega) [] [] (by simp) (by simp)
  rw [List.drop_zero, List.nil_append] at h
  exact h

/-! Digits of half bytes. -/
def hexDig : List UInt8 := [48, 49, 50, 51, 52, 53, 54, 55, 56, 57, 97, 98, 99, 100, 101, 102]
def hexI (c : UInt8) : Int := Lib.indexByte hexDig c
def unhexL : List UInt8 → Option (List Int)
  | [] => some []
  | [_] => none
  | a :: b :: l => if hexI a < 0 ∨ hexI b < 0 then none else (unhexL l).map fun r => (16 * hexI a + hexI b) :: r
def unhexB (s : ByteArray) : List Int × Bool := match unhexL s.data.toList with
  | some l => (l, true)
  | none => ([], false)
theorem hexI_fin : ∀ n : Fin 256, hexI (UInt8.ofNat n.val) = if 48 ≤ n.val ∧ n.val ≤ 57 then (n.val : Int) - 48 else if 97 ≤ n.val ∧ n.val ≤ 102 then (n.val : Int) - 87 else -1 := by decide +kernel
theorem hexI_eq (c : UInt8) : hexI c = if 48 ≤ c.toNat ∧ c.toNat ≤ 57 then (c.toNat : Int) - 48 else if 97 ≤ c.toNat ∧ c.toNat ≤ 102 then (c.toNat : Int) - 87 else -1 := by
  have h := hexI_fin ⟨c.toNat, c.toNat_lt⟩
  have e : UInt8.ofNat c.toNat = c := by simp
  simp only [e] at h
  exact h
theorem hexI_lt (c : UInt8) : hexI c ≤ 15 := by rw [hexI_eq]; split <;> (try split) <;> omega
theorem or_fin : ∀ a : Fin 16, ∀ b : Fin 16, (Go.bits .or .i64 (wrap64 ((a.val : Int) * 16)) (b.val : Int)) % 256 = 16 * (a.val : Int) + (b.val : Int) := by decide +kernel
theorem or_hex (a b : Int) (h0 : 0 ≤ a) (h1 : a ≤ 15) (h2 : 0 ≤ b) (h3 : b ≤ 15) : (Go.bits .or .i64 (wrap64 (a * 16)) b) % 256 = 16 * a + b := by
  obtain ⟨a, rfl⟩ := Int.eq_ofNat_of_zero_le h0
  obtain ⟨b, rfl⟩ := Int.eq_ofNat_of_zero_le h2
  exact or_fin ⟨a, by omega⟩ ⟨b, by omega⟩
theorem idx_f (c : UInt8) : strings_IndexByte.f (⟨#[48, 49, 50, 51, 52, 53, 54, 55, 56, 57, 97, 98, 99, 100, 101, 102]⟩ : ByteArray) (c.toNat : Int) = some (hexI c) := by
  show some (Go.Lib.indexByte hexDig ((c.toNat : Int).toNat.toUInt8)) = some (Go.Lib.indexByte hexDig c)
  have : (c.toNat : Int).toNat.toUInt8 = c := by rw [Int.toNat_natCast]; simp
  rw [this]

def unhexR (D : List Int) (l : List UInt8) : List Int × Bool := match unhexL l with
  | some r => (D ++ r, true)
  | none => ([], false)
theorem unhexR_step (D : List Int) (a b : UInt8) (l : List UInt8) (ha : ¬ hexI a < 0) (hb : ¬ hexI b < 0) : unhexR D (a :: b :: l) = unhexR (D ++ [16 * hexI a + hexI b]) l := by
  unfold unhexR
  rw [unhexL, if_neg (by omega)]
  cases unhexL l <;> simp
theorem unhexR_bad (D : List Int) (a b : UInt8) (l : List UInt8) (h : hexI a < 0 ∨ hexI b < 0) : unhexR D (a :: b :: l) = ([], false) := by
  unfold unhexR
  rw [unhexL, if_pos h]
theorem drop_two (l : List UInt8) (i : Nat) (h : i + 1 < l.length) : l.drop i = l[i] :: l[i + 1] :: l.drop (i + 2) := by
  rw [List.drop_eq_getElem_cons (by omega), List.drop_eq_getElem_cons (by omega)]

theorem unhex_run (s : ByteArray) (hs : s.size ≤ 1000) : ∀ m i : Nat, 2 * (i + m) = s.size → ∀ D : List Int, D.length = i →
    Ev (fun n => sha_Unhex.l0 n s (D ++ List.replicate m 0) ((i + m : Nat) : Int) (i : Int)) (unhexR D (s.data.toList.drop (2 * i))) := by
  intro m
  induction m with
  | zero =>
    intro i hi D hD
    rw [List.drop_eq_nil_of_le (by rw [size_data]; omega)]
    refine Ev.step (f := fun _ => some (unhexR D [])) (fun n => ?_) (Ev.now _)
    simp only [sha_Unhex.l0]
    rw [if_neg (by omega)]
    simp [unhexR, unhexL]
  | succ m ih =>
    intro i hi D hD
    have h2 : 2 * i + 1 < s.data.toList.length := by rw [size_data]; omega
    have hb1 : bt s (((2 * i : Nat)) : Int) = ((s.data.toList[2 * i]'(Nat.lt_of_succ_lt h2)).toNat : Int) := bt_data (List.getElem?_eq_getElem (Nat.lt_of_succ_lt h2))
    have hb2 : bt s (((2 * i + 1 : Nat)) : Int) = ((s.data.toList[2 * i + 1]'h2).toNat : Int) := bt_data (List.getElem?_eq_getElem h2)
    have w1 : wrap64 (2 * (i : Int)) = ((2 * i : Nat) : Int) := by rw [w64 (by omega) (by omega)]; omega
    have w2 : wrap64 (((2 * i : Nat) : Int) + 1) = ((2 * i + 1 : Nat) : Int) := by rw [w64 (by omega) (by omega)]; omega
    have w3 : wrap64 ((i : Int) + 1) = ((i + 1 : Nat) : Int) := by rw [w64 (by omega) (by omega)]; omega
    have hd := drop_two s.data.toList (2 * i) h2
    obtain ⟨a, ha⟩ : ∃ a, s.data.toList[2 * i]'(Nat.lt_of_succ_lt h2) = a := ⟨_, rfl⟩
    obtain ⟨b, hb⟩ : ∃ b, s.data.toList[2 * i + 1]'h2 = b := ⟨_, rfl⟩
    rw [ha, hb] at hd
    rw [ha] at hb1
    rw [hb] at hb2
    rw [hd]
    clear hd ha hb
    by_cases h1 : hexI a < 0
    · rw [unhexR_bad _ _ _ _ (.inl h1)]
      refine Ev.step (f := fun _ => some ([], false)) (fun n => ?_) (Ev.now _)
      simp only [sha_Unhex.l0, w1, w2, hb1, hb2, idx_f, Option.bind_some]
      rw [if_pos (by omega), if_pos (by omega), if_pos (by omega), if_pos (by omega), if_pos (by omega), if_pos h1]
    · by_cases h3 : hexI b < 0
      · rw [unhexR_bad _ _ _ _ (.inr h3)]
        refine Ev.step (f := fun _ => some ([], false)) (fun n => ?_) (Ev.now _)
        simp only [sha_Unhex.l0, w1, w2, hb1, hb2, idx_f, Option.bind_some]
        rw [if_pos (by omega), if_pos (by omega), if_pos (by omega), if_pos (by omega), if_pos (by omega), if_neg h1, if_pos h3]
      · rw [unhexR_step _ _ _ _ h1 h3]
        have := ih (i + 1) (by omega) (D ++ [16 * hexI a + hexI b]) (by simp [hD])
        rw [show 2 * (i + 1) = 2 * i + 2 by omega, show i + 1 + m = i + (m + 1) by omega] at this
        refine Ev.step (f := fun n => sha_Unhex.l0 n s ((D ++ [16 * hexI a + hexI b]) ++ List.replicate m 0) ((i + (m + 1) : Nat) : Int) ((i + 1 : Nat) : Int)) (fun n => ?_) this
        have hset : (D ++ List.replicate (m + 1) (0 : Int)).set i (16 * hexI a + hexI b) = (D ++ [16 * hexI a + hexI b]) ++ List.replicate m 0 := by
          rw [← hD, List.set_append_right _ _ (Nat.le_refl _), Nat.sub_self, List.replicate_succ, List.set_cons_zero, List.append_assoc]
          rfl
        have hor := or_hex (hexI a) (hexI b) (by omega) (hexI_lt a) (by omega) (hexI_lt b)
        simp only [sha_Unhex.l0, w1, w2, w3, hb1, hb2, idx_f, Option.bind_some]
        rw [if_pos (by omega), if_pos (by omega), if_pos (by omega), if_pos (by omega), if_pos (by omega), if_neg h1, if_neg h3, if_pos (by omega), if_pos (by simp; omega), hor]
        simp only [Int.toNat_natCast]
        rw [hset]
theorem unhexB_R (s : ByteArray) : unhexB s = unhexR [] s.data.toList := by
  unfold unhexB unhexR
  cases unhexL s.data.toList <;> simp
theorem unhexL_odd : ∀ (n : Nat) (l : List UInt8), l.length ≤ n → l.length % 2 = 1 → unhexL l = none := by
  intro n
  induction n with
  | zero => intro l h1 h2; omega
  | succ n ih =>
    intro l h1 h2
    match l, h1, h2 with
    | [], _, h2 => simp at h2
    | [_], _, _ => rfl
    | a :: b :: l, h1, h2 =>
      rw [unhexL]
      split
      · rfl
      · rw [ih l (by simp at h1; omega) (by simp at h2; omega)]
        rfl
theorem unhex_ev (s : ByteArray) (hs : s.size ≤ 1000) : Ev (fun n => sha_Unhex.f n s) (unhexB s) := by
  by_cases h : s.size % 2 = 1
  · refine Ev.step (f := fun _ => some (unhexB s)) (fun n => ?_) (Ev.now _)
    have : unhexB s = ([], false) := by
      unfold unhexB
      rw [unhexL_odd _ _ (Nat.le_refl _) (by rw [size_data]; exact h)]
    rw [this]
    unfold sha_Unhex.f
    rw [if_pos (by omega)]
  · have hw : wrap64 ((s.size : Int) / 2) = ((s.size / 2 : Nat) : Int) := by rw [w64 (by omega) (by omega)]; omega
    have hr := unhex_run s hs (s.size / 2) 0 (by omega) [] rfl
    rw [unhexB_R]
    simp only [Nat.zero_add, Nat.mul_zero, List.drop_zero, List.nil_append] at hr
    refine Ev.congr (fun k => ?_) hr
    unfold sha_Unhex.f
    rw [if_neg (by omega), hw, if_pos (by omega), if_pos (by omega)]
    simp only [Option.bind_some, Int.toNat_natCast, List.length_replicate]
    rfl

theorem digit_ev (c : UInt8) : Ev (fun n => tipstaffref02_digit.f n (c.toNat : Int)) (hexI c) := by
  refine Ev.step (f := fun _ => some (hexI c)) (fun n => ?_) (Ev.now _)
  unfold tipstaffref02_digit.f
  simp only [tipstaffref02_digit.j0]
  rw [hexI_eq]
  have := c.toNat_lt
  generalize c.toNat = d at *
  by_cases h1 : 48 ≤ d
  · by_cases h2 : d ≤ 57
    · rw [if_pos (show (d : Int) ≥ 48 by omega), if_pos (show decide ((d : Int) ≤ 57) = true from decide_eq_true (by omega)), if_pos (show 48 ≤ d ∧ d ≤ 57 from ⟨h1, h2⟩)]
      congr 1
      omega
    · rw [if_pos (show (d : Int) ≥ 48 by omega), if_neg (show ¬ decide ((d : Int) ≤ 57) = true by rw [decide_eq_false (by omega)]; decide), if_neg (show ¬ (48 ≤ d ∧ d ≤ 57) by omega)]
      by_cases h3 : 97 ≤ d
      · by_cases h4 : d ≤ 102
        · rw [if_pos (show (d : Int) ≥ 97 by omega), if_pos (show (d : Int) ≤ 102 by omega), if_pos (show 97 ≤ d ∧ d ≤ 102 from ⟨h3, h4⟩)]
          congr 1
          omega
        · rw [if_pos (show (d : Int) ≥ 97 by omega), if_neg (show ¬ (d : Int) ≤ 102 by omega), if_neg (show ¬ (97 ≤ d ∧ d ≤ 102) by omega)]
      · rw [if_neg (show ¬ (d : Int) ≥ 97 by omega), if_neg (show ¬ (97 ≤ d ∧ d ≤ 102) by omega)]
  · rw [if_neg (show ¬ (d : Int) ≥ 48 by omega), if_neg (show ¬ false = true by decide), if_neg (show ¬ (48 ≤ d ∧ d ≤ 57) by omega), if_neg (show ¬ (d : Int) ≥ 97 by omega), if_neg (show ¬ (97 ≤ d ∧ d ≤ 102) by omega)]

theorem unhex2_run (s : ByteArray) (hs : s.size ≤ 1000) : ∀ m i : Nat, 2 * (i + m) = s.size → ∀ D : List Int, D.length = i →
    Ev (fun n => tipstaffref02_Unhex.l0 n s D ((2 * i : Nat) : Int)) (unhexR D (s.data.toList.drop (2 * i))) := by
  intro m
  induction m with
  | zero =>
    intro i hi D hD
    rw [List.drop_eq_nil_of_le (by rw [size_data]; omega)]
    refine Ev.step (f := fun _ => some (unhexR D [])) (fun n => ?_) (Ev.now _)
    have w2 : wrap64 (((2 * i : Nat) : Int) + 1) = ((2 * i + 1 : Nat) : Int) := by rw [w64 (by omega) (by omega)]; omega
    simp only [tipstaffref02_Unhex.l0, w2]
    rw [if_neg (by omega)]
    simp [unhexR, unhexL]
  | succ m ih =>
    intro i hi D hD
    have h2 : 2 * i + 1 < s.data.toList.length := by rw [size_data]; omega
    have hb1 : bt s (((2 * i : Nat)) : Int) = ((s.data.toList[2 * i]'(Nat.lt_of_succ_lt h2)).toNat : Int) := bt_data (List.getElem?_eq_getElem (Nat.lt_of_succ_lt h2))
    have hb2 : bt s (((2 * i + 1 : Nat)) : Int) = ((s.data.toList[2 * i + 1]'h2).toNat : Int) := bt_data (List.getElem?_eq_getElem h2)
    have w2 : wrap64 (((2 * i : Nat) : Int) + 1) = ((2 * i + 1 : Nat) : Int) := by rw [w64 (by omega) (by omega)]; omega
    have w3 : wrap64 (((2 * i : Nat) : Int) + 2) = ((2 * (i + 1) : Nat) : Int) := by rw [w64 (by omega) (by omega)]; omega
    have hd := drop_two s.data.toList (2 * i) h2
    obtain ⟨a, ha⟩ : ∃ a, s.data.toList[2 * i]'(Nat.lt_of_succ_lt h2) = a := ⟨_, rfl⟩
    obtain ⟨b, hb⟩ : ∃ b, s.data.toList[2 * i + 1]'h2 = b := ⟨_, rfl⟩
    rw [ha, hb] at hd
    rw [ha] at hb1
    rw [hb] at hb2
    rw [hd]
    clear hd ha hb
    refine Ev.step (f := fun n => (tipstaffref02_digit.f n (a.toNat : Int)).bind fun t1 => (tipstaffref02_digit.f n (b.toNat : Int)).bind fun t2 => if t1 < 0 then some ([], false) else if t2 < 0 then some ([], false) else
      tipstaffref02_Unhex.l0 n s (D ++ [(wrap64 ((wrap64 (16 * t1)) + t2)) % 256]) ((2 * (i + 1) : Nat) : Int)) (fun n => ?_) (Ev.bind (digit_ev a) (Ev.bind (digit_ev b) ?_))
    · simp only [tipstaffref02_Unhex.l0, w2, w3, hb1, hb2]
      rw [if_pos (by omega), if_pos (by omega), if_pos (by omega)]
      congr 1
      funext t1
      rw [if_pos (by omega)]
      congr 1
      funext t2
      have hL : D.length < 140737488355328 := by omega
      simp only [if_pos hL]
    · by_cases h1 : hexI a < 0
      · rw [unhexR_bad _ _ _ _ (.inl h1)]
        exact Ev.congr (fun k => by rw [if_pos h1]) (Ev.now _)
      · by_cases h3 : hexI b < 0
        · rw [unhexR_bad _ _ _ _ (.inr h3)]
          exact Ev.congr (fun k => by rw [if_neg h1, if_pos h3]) (Ev.now _)
        · rw [unhexR_step _ _ _ _ h1 h3]
          have := ih (i + 1) (by omega) (D ++ [16 * hexI a + hexI b]) (by simp [hD])
          rw [show 2 * (i + 1) = 2 * i + 2 by omega] at this
          have := hexI_lt a
          have := hexI_lt b
          have hv : (wrap64 ((wrap64 (16 * hexI a)) + hexI b)) % 256 = 16 * hexI a + hexI b := by rw [w64 (n := 16 * hexI a) (by omega) (by omega), w64 (by omega) (by omega)]; omega
          refine Ev.congr (f := fun n => tipstaffref02_Unhex.l0 n s (D ++ [16 * hexI a + hexI b]) ((2 * i + 2 : Nat) : Int)) (fun k => ?_) (by assumption)
          rw [if_neg h1, if_neg h3, hv, show 2 * (i + 1) = 2 * i + 2 by omega]
theorem unhex2_ev (s : ByteArray) (hs : s.size ≤ 1000) : Ev (fun n => tipstaffref02_Unhex.f n s) (unhexB s) := by
  by_cases h : s.size % 2 = 1
  · have : unhexB s = ([], false) := by
      unfold unhexB
      rw [unhexL_odd _ _ (Nat.le_refl _) (by rw [size_data]; exact h)]
    rw [this]
    refine Ev.congr (fun n => ?_) (Ev.now _)
    unfold tipstaffref02_Unhex.f
    rw [if_neg (by omega)]
  · have hr := unhex2_run s hs (s.size / 2) 0 (by omega) [] rfl
    rw [unhexB_R]
    simp only [Nat.mul_zero, List.drop_zero] at hr
    refine Ev.congr (fun k => ?_) hr
    unfold tipstaffref02_Unhex.f
    rw [if_pos (by omega)]
    rfl

/-! Records. -/
def readB (s : ByteArray) : Int × List Int × List Int × Bool := match pieces 58 s with
  | [a, b, c] => ((parseB a).1, (unhexB b).1, (unhexB c).1, (parseB a).2 && (unhexB b).2 && (unhexB c).2 && decide (0 < (parseB a).1) && decide ((parseB a).1 ≤ 64) && decide ((unhexB b).1.length ≤ 32) && decide ((unhexB c).1.length = 32))
  | _ => (0, [], [], false)
def rightB (s : ByteArray) : Bool := (readB s).2.2.2
theorem three {α : Type} (l : List α) (h : l.length = 3) : ∃ a b c, l = [a, b, c] := by
  match l, h with
  | [a, b, c], _ => exact ⟨a, b, c, rfl⟩
theorem len3_0 (a b c : ByteArray) : (0 : Int) < (([a, b, c] : List ByteArray).length : Int) := (show (0 : Int) < ((3 : Nat) : Int) by decide)
theorem len3_1 (a b c : ByteArray) : (1 : Int) < (([a, b, c] : List ByteArray).length : Int) := (show (1 : Int) < ((3 : Nat) : Int) by decide)
theorem len3_2 (a b c : ByteArray) : (2 : Int) < (([a, b, c] : List ByteArray).length : Int) := (show (2 : Int) < ((3 : Nat) : Int) by decide)
theorem not_three (s : ByteArray) (h : (pieces 58 s).length ≠ 3) : readB s = (0, [], [], false) := by
  unfold readB
  split
  · rename_i he
    rw [he] at h
    exact absurd rfl h
  · rfl
theorem end_read (n : Int) (x y : List Int) (p q r : Bool) : (if p = true then (if q = true then (if r = true then (if n > 0 then (if n ≤ 64 then (if (x.length : Int) ≤ 32 then some (n, x, y, ((y.length : Int) == 32)) else some (n, x, y, false)) else some (n, x, y, false)) else some (n, x, y, false)) else some (n, x, y, false)) else some (n, x, y, false)) else some (n, x, y, false)) =
    some (n, x, y, p && q && r && decide (0 < n) && decide (n ≤ 64) && decide (x.length ≤ 32) && decide (y.length = 32)) := by
  cases p <;> cases q <;> cases r <;> simp
  by_cases h1 : 0 < n
  · by_cases h2 : n ≤ 64
    · by_cases h3 : x.length ≤ 32
      · rw [if_pos h1, if_pos h2, if_pos (by omega), decide_eq_true h1, decide_eq_true h2, decide_eq_true h3]
        simp
        by_cases h4 : y.length = 32
        · simp [h4]
        · rw [decide_eq_false h4, beq_eq_false_iff_ne]; omega
      · rw [if_pos h1, if_pos h2, if_neg (by omega), decide_eq_false h3]; simp
    · rw [if_pos h1, if_neg h2, decide_eq_false h2]; simp
  · rw [if_neg h1, decide_eq_false h1]; simp
theorem read_ev (s : ByteArray) (hs : s.size ≤ 1000) : Ev (fun n => mac_read.f n s) (readB s) := by
  have hsp := split_f 58 s (by omega)
  by_cases h3 : (pieces 58 s).length = 3
  · obtain ⟨a, b, c, he⟩ := three _ h3
    have ha := pieces_mem (p := a) (c := 58) (s := s) (by rw [he]; simp)
    have hb := pieces_mem (p := b) (c := 58) (s := s) (by rw [he]; simp)
    have hc := pieces_mem (p := c) (c := 58) (s := s) (by rw [he]; simp)
    have hp := parse_f a (by omega)
    have hR : readB s = ((parseB a).1, (unhexB b).1, (unhexB c).1, (parseB a).2 && (unhexB b).2 && (unhexB c).2 && decide (0 < (parseB a).1) && decide ((parseB a).1 ≤ 64) && decide ((unhexB b).1.length ≤ 32) && decide ((unhexB c).1.length = 32)) := by
      unfold readB; rw [he]
    rw [hR]
    refine Ev.congr (f := fun n => (sha_Unhex.f n b).bind fun t1 => (sha_Unhex.f n c).bind fun t2 => (if (parseB a).2 = true then (if t1.2 = true then (if t2.2 = true then (if (parseB a).1 > 0 then (if (parseB a).1 ≤ 64 then (if (t1.1.length : Int) ≤ 32 then some ((parseB a).1, t1.1, t2.1, ((t2.1.length : Int) == 32)) else some ((parseB a).1, t1.1, t2.1, false)) else some ((parseB a).1, t1.1, t2.1, false)) else some ((parseB a).1, t1.1, t2.1, false)) else some ((parseB a).1, t1.1, t2.1, false)) else some ((parseB a).1, t1.1, t2.1, false)) else some ((parseB a).1, t1.1, t2.1, false))) (fun n => ?_) (Ev.bind (unhex_ev b (by omega)) (Ev.bind (unhex_ev c (by omega)) (Ev.congr (fun n => end_read _ _ _ _ _ _) (Ev.now _))))
    unfold mac_read.f
    rw [hsp, he]
    simp only [Option.bind_some]
    have e0 : rdOf ByteArray.empty [a, b, c] 0 = a := rfl
    have e1 : rdOf ByteArray.empty [a, b, c] 1 = b := rfl
    have e2 : rdOf ByteArray.empty [a, b, c] 2 = c := rfl
    rw [e0, e1, e2, hp, if_pos (by rfl), if_pos (len3_0 a b c)]
    simp only [Option.bind_some]
    rw [if_pos (len3_1 a b c)]
    congr 1
  · rw [not_three s h3]
    refine Ev.congr (fun n => ?_) (Ev.now _)
    unfold mac_read.f
    rw [hsp]
    simp only [Option.bind_some]
    rw [if_neg (by omega)]
theorem right_ev (s : ByteArray) (hs : s.size ≤ 1000) : Ev (fun n => mac_Right.f n s) (rightB s) := by
  unfold mac_Right.f
  exact Ev.bind (f := fun _ (t : Int × List Int × List Int × Bool) => some t.2.2.2) (read_ev s hs) (Ev.now _)
theorem read2_ev (s : ByteArray) (hs : s.size ≤ 1000) : Ev (fun n => tipstaffref03_read.f n s) (readB s) := by
  unfold tipstaffref03_read.f
  refine Ev.bind (parts_ev s hs) ?_
  by_cases h3 : (pieces 58 s).length = 3
  · obtain ⟨a, b, c, he⟩ := three _ h3
    have ha := pieces_mem (p := a) (c := 58) (s := s) (by rw [he]; simp)
    have hb := pieces_mem (p := b) (c := 58) (s := s) (by rw [he]; simp)
    have hc := pieces_mem (p := c) (c := 58) (s := s) (by rw [he]; simp)
    have hR : readB s = ((parseB a).1, (unhexB b).1, (unhexB c).1, (parseB a).2 && (unhexB b).2 && (unhexB c).2 && decide (0 < (parseB a).1) && decide ((parseB a).1 ≤ 64) && decide ((unhexB b).1.length ≤ 32) && decide ((unhexB c).1.length = 32)) := by
      unfold readB; rw [he]
    rw [hR, he]
    have e0 : rdOf ByteArray.empty [a, b, c] 0 = a := rfl
    have e1 : rdOf ByteArray.empty [a, b, c] 1 = b := rfl
    have e2 : rdOf ByteArray.empty [a, b, c] 2 = c := rfl
    refine Ev.congr (f := fun n => (tipstaffref01_Parse.f n a).bind fun t0 => (tipstaffref02_Unhex.f n b).bind fun t1 => (tipstaffref02_Unhex.f n c).bind fun t2 => (if t0.2 = true then (if t1.2 = true then (if t2.2 = true then (if t0.1 > 0 then (if t0.1 ≤ 64 then (if (t1.1.length : Int) ≤ 32 then some (t0.1, t1.1, t2.1, ((t2.1.length : Int) == 32)) else some (t0.1, t1.1, t2.1, false)) else some (t0.1, t1.1, t2.1, false)) else some (t0.1, t1.1, t2.1, false)) else some (t0.1, t1.1, t2.1, false)) else some (t0.1, t1.1, t2.1, false)) else some (t0.1, t1.1, t2.1, false))) (fun n => ?_) (Ev.bind (ref_parse_ev a (by omega)) (Ev.bind (unhex2_ev b (by omega)) (Ev.bind (unhex2_ev c (by omega)) (Ev.congr (fun n => end_read _ _ _ _ _ _) (Ev.now _)))))
    rw [e0, e1, e2, if_pos (by rfl), if_pos (len3_0 a b c)]
    congr 1
  · rw [not_three s h3]
    refine Ev.congr (fun n => ?_) (Ev.now _)
    rw [if_neg (by omega)]
theorem right2_ev (s : ByteArray) (hs : s.size ≤ 1000) : Ev (fun n => tipstaffref03_Right.f n s) (rightB s) := by
  unfold tipstaffref03_Right.f
  exact Ev.bind (f := fun _ (t : Int × List Int × List Int × Bool) => some t.2.2.2) (read2_ev s hs) (Ev.now _)
end Go.Proofs.YtencimfeipglaaaDoor.X
