/- Plain: what the printed texts' first functions are. -/
import Derived.Test.YtccgjpfkepamfaaDoorPTxt
import Derived.Test.YtccgjpfkepamfaaDoorXx1
import Derived.Test.YtccgjpfkepamfaaDoorXx3
import Derived.Test.YtccgjpfkepamfaaDoorXx1
set_option linter.unusedVariables false
set_option linter.unusedSimpArgs false
namespace Go.Proofs.YtccgjpfkepamfaaDoor.X
open Go.RowKit Go.Lib Go.Proofs.YtccgjpfkepamfaaDoorW.PrintWords

theorem text_f (n : Int) (h0 : -9223372036854775808 ≤ n) (h1 : n ≤ 9223372036854775807) : num_Text.f n = some (textB n) := by unfold num_Text.f; rw [if_pos ⟨h0, h1⟩]
theorem parse_f (s : ByteArray) (h : s.size ≤ 140737488355328) : num_Parse.f s = some (parseB s) := by unfold num_Parse.f; rw [if_pos h]
theorem low_f (s : ByteArray) (h : s.size ≤ 140737488355327) : num_Lower.f s = some (lowB s) := by unfold num_Lower.f; rw [if_pos h]
theorem word_f (s : ByteArray) (h : s.size ≤ 140737488355328) : num_Word.f s = some (wordB s) := by unfold num_Word.f; rw [if_pos h]

theorem one_data (c : UInt8) : (⟨#[c]⟩ : ByteArray).data.toList = [c] := rfl
theorem app_size (s t : ByteArray) : (s ++ t).size = s.size + t.size := ByteArray.size_append
theorem shown_true : tipstafflaw01_shown.f = some true := by
  unfold tipstafflaw01_shown.f
  rw [parse_f _ (by decide), parse_f _ (by decide), parse_f _ (by decide), low_f _ (by decide), parse_dash0, parse_007, parse_m7, low_aB1]
  simp only [Option.bind_some, toList_data]
  decide

def i64 (n : Int) : Prop := -9223372036854775808 ≤ n ∧ n ≤ 9223372036854775807
theorem i64_wf {n : Int} (h : (Lit.int .i64 n).wf = true) : i64 n := by
  have e1 : IntKind.i64.min = -9223372036854775808 := rfl
  have e2 : IntKind.i64.max = 9223372036854775807 := rfl
  simp [Lit.wf, e1, e2] at h
  exact h

def addB (a b : Int) : Int × Bool := if -9223372036854775808 ≤ a + b ∧ a + b ≤ 9223372036854775807 then (a + b, true) else (0, false)
theorem add_f (a b : Int) (ha : i64 a) (hb : i64 b) : num_Add.f a b = some (addB a b) := by
  obtain ⟨a1, a2⟩ := ha
  obtain ⟨b1, b2⟩ := hb
  unfold num_Add.f addB
  by_cases h : -9223372036854775808 ≤ a + b ∧ a + b ≤ 9223372036854775807
  · have hw : wrap64 (a + b) = a + b := by unfold wrap64; omega
    rw [if_pos h, hw, if_neg]
    by_cases hb : b > 0
    · have : a + b > a := by omega
      simp [this, hb]
    · have : ¬ a + b > a := by omega
      simp [this, hb]
  · rw [if_neg h, if_pos]
    by_cases hb : b > 0
    · have : ¬ wrap64 (a + b) > a := by unfold wrap64; omega
      simp [this, hb]
    · have : wrap64 (a + b) > a := by unfold wrap64; omega
      simp [this, hb]

def shortB (s : ByteArray) : ByteArray := if s.size > 60 then s.extract 0 60 else s
theorem short_size (s : ByteArray) : (shortB s).size ≤ 60 := by
  unfold shortB
  split
  · rw [ByteArray.size_extract]; omega
  · omega
theorem short_f (s : ByteArray) : tipstafflaw01_short.f s = some (shortB s) := by
  unfold tipstafflaw01_short.f shortB
  by_cases h : s.size > 60
  · rw [if_pos (by omega), if_pos (by omega), if_pos (by omega), if_pos h]
  · rw [if_neg (by omega), if_neg h]

theorem lowB_data (s : ByteArray) : (lowB s).data.toList = s.data.toList.map low1 := by unfold lowB; simp
theorem lowB_size (s : ByteArray) : (lowB s).size = s.size := by rw [← size_data, lowB_data, List.length_map, size_data]
theorem low_low (c : UInt8) : low1 (low1 c) = low1 c := by
  unfold low1
  by_cases h : 65 ≤ c.toNat ∧ c.toNat ≤ 90
  · have e : (c + 32).toNat = c.toNat + 32 := by
      rw [UInt8.toNat_add]
      have : (32 : UInt8).toNat = 32 := rfl
      rw [this]
      omega
    rw [if_pos h, if_neg (by rw [e]; omega)]
  · rw [if_neg h, if_neg h]
theorem lowB_low (s : ByteArray) : lowB (lowB s) = lowB s := by
  apply str_ext'
  rw [lowB_data, lowB_data, List.map_map]
  congr 1
  funext c
  exact low_low c
theorem low_toNat (c : UInt8) : (low1 c).toNat = if 65 ≤ c.toNat ∧ c.toNat ≤ 90 then c.toNat + 32 else c.toNat := by
  unfold low1
  split
  · rw [UInt8.toNat_add]
    have : (32 : UInt8).toNat = 32 := rfl
    rw [this]
    omega
  · rfl
theorem okc_low (c : UInt8) : okc (low1 c) = okc c := by
  unfold okc
  rw [low_toNat]
  split
  · rw [decide_eq_true (by omega), decide_eq_true (by omega)]
  · rfl
theorem word_low (s : ByteArray) : wordB (lowB s) = wordB s := by
  unfold wordB
  rw [lowB_data, List.all_map]
  have : (okc ∘ low1) = okc := by funext c; exact okc_low c
  rw [this]
  cases s.data.toList <;> rfl
theorem bt_data {s : ByteArray} {k : Nat} {c : UInt8} (h : s.data.toList[k]? = some c) : bt s (k : Int) = (c.toNat : Int) := by
  have hk : k < s.data.toList.length := (List.getElem?_eq_some_iff.1 h).1
  have hk' : k < s.size := by rw [size_data] at hk; exact hk
  unfold bt
  rw [dif_pos (by simpa using hk')]
  have e : s.data.toList[k] = c := (List.getElem?_eq_some_iff.1 h).2
  rw [← e]
  rfl

end Go.Proofs.YtccgjpfkepamfaaDoor.X
