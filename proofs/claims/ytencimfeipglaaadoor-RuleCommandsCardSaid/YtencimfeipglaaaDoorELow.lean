/- num.Lower, as the printed texts take it. -/
import Derived.Test.YtencimfeipglaaaDoorEBld
import Derived.Laws.BitsLemmas
import Derived.Laws.BitsAllLaws
import Derived.LoopTactic
set_option linter.unusedVariables false
set_option linter.unusedSimpArgs false
namespace Go.Proofs.YtencimfeipglaaaDoor.X
open Go.RowKit Go.Proofs.YtencimfeipglaaaDoorW.PrintWords

theorem or32 : ∀ m : Nat, m < 26 → bits .or .u8 ((65 + m : Nat) : Int) 32 = ((97 + m : Nat) : Int) := by decide
theorem or32' (x : Int) (h1 : 65 ≤ x) (h2 : x ≤ 90) : bits .or .u8 x 32 = x + 32 := by
  have := or32 (x.toNat - 65) (by omega)
  rw [show ((65 + (x.toNat - 65) : Nat) : Int) = x by omega, show ((97 + (x.toNat - 65) : Nat) : Int) = x + 32 by omega] at this
  exact this

def low1 (c : UInt8) : UInt8 := if 65 ≤ c.toNat ∧ c.toNat ≤ 90 then c + 32 else c
def lowB (s : ByteArray) : ByteArray := ⟨(s.data.toList.map low1).toArray⟩
def LowRel (w W0 : World) (l : List UInt8) (i : Value) (wr : World) : Prop :=
  ∃ (k : Nat) (v : Value), k ≤ l.length ∧ i = .int .i64 k ∧ (BAt wr w.heap.size w.heap.size (.pointer none) v (Lib.byteCells ((l.take k).map low1)) ∨ BAt wr w.heap.size w.heap.size (.pointer (some ⟨w.heap.size, 0, none⟩)) v (Lib.byteCells ((l.take k).map low1))) ∧
    Kp (· = w.heap.size) W0 wr ∧ ∀ j, v.ownBlock = some j → W0.heap.size ≤ j

def num_Lower.f (a0 : ByteArray) : Option ByteArray := if a0.size ≤ 140737488355327 then some (lowB a0) else none

theorem low_step {w W0 wr w2 : World} {l : List UInt8} {n k : Nat} {v v2 : Value} {x : Int} (hl : l.length = n) (hlt : k < n) (hK : Kp (· = w.heap.size) W0 wr) (hv : ∀ j, v.ownBlock = some j → W0.heap.size ≤ j)
    (hx : x = ((l[k]'(by omega)).toNat : Int)) (hc : (65 ≤ x ∧ x ≤ 90) ∨ x < 65 ∨ 90 < x)
    {y : Int} (hy : y = if 65 ≤ x ∧ x ≤ 90 then x + 32 else x) (hB : BAt w2 w.heap.size w.heap.size (.pointer (some ⟨w.heap.size, 0, none⟩)) v2 (Lib.byteCells ((l.take k).map low1) ++ [.int .u8 y])) (hK2 : Kp (Own w.heap.size v) wr w2) (hv2 : v2.ownBlock = v.ownBlock ∨ ∃ j, v2.ownBlock = some j ∧ wr.heap.size ≤ j) :
    LowRel w W0 l (.int .i64 ((k : Int) + 1)) w2 := by
  have hkl : k < l.length := by omega
  subst hy
  refine ⟨k + 1, v2, by omega, rfl, .inr ?_, hK.trans' hK2 fun i hi => ?_, fun j hj => ?_⟩
  · have e1 : Lib.byteCells ((l.take (k + 1)).map low1) = Lib.byteCells ((l.take k).map low1) ++ [.int .u8 (if 65 ≤ x ∧ x ≤ 90 then x + 32 else x)] := by
      rw [List.take_succ_eq_append_getElem hkl, List.map_append, Lib.byteCells_append]
      congr 1
      simp only [List.map_cons, List.map_nil, Lib.byteCells]
      congr 2
      unfold low1
      by_cases h : 65 ≤ x ∧ x ≤ 90
      · rw [if_pos h, if_pos (by omega)]
        rw [UInt8.toNat_add]
        have : (32 : UInt8).toNat = 32 := rfl
        rw [this]
        omega
      · rw [if_neg h, if_neg (by omega)]
        exact hx.symm
    rw [e1]
    exact hB
  · rcases hi with hi | hi
    · exact .inl hi
    · exact .inr (hv i hi.symm)
  · rcases hv2 with e | ⟨j', e, hj'⟩
    · exact hv j (by rw [← e]; exact hj)
    · rw [hj] at e
      cases e
      exact Nat.le_trans hK.size hj'

set_option maxHeartbeats 1000000 in
theorem num_Lower.calls (a0 : ByteArray) (r : ByteArray) (w : World) (h : num_Lower.f a0 = some r) :
    Calls Tryd.prog 84 #[.string a0] w fun e w' => e = .returned (.string r) ∧ Below w.heap.size w w' := by
  unfold num_Lower.f at h
  split at h
  · rename_i hs
    obtain rfl := Option.some.inj h
    have kb := fun W => print_bytes (P := Tryd.prog) 9 40 5 Tryd.underlying9 Tryd.underlying40 Tryd.underlying5 a0 W
    go_enter Tryd.func84, Tryd.ntmps84
    go_wp2
    have hrd := bytes_reads (w.alloc (.cells #[.pointer none, .slice none 0 0] 86)) 5 a0 (by omega)
    have hbl : Below w.heap.size w (Lib.bytesWorld (w.alloc (.cells #[.pointer none, .slice none 0 0] 86)) 5 a0) := bytes_below ((Below.refl _ _).alloc (Nat.le_refl _) _) (by simp) _ _
    have hbb : (Lib.bytesWorld (w.alloc (.cells #[.pointer none, .slice none 0 0] 86)) 5 a0).heap[w.heap.size]? = some (.cells #[.pointer none, .slice none 0 0] 86 (0, 0)) := by
      rw [(bytes_below (B := w.heap.size + 1) (w := w.alloc (.cells #[.pointer none, .slice none 0 0] 86)) (Below.refl _ _) (by simp) 5 a0).block w.heap.size (by omega)]
      exact heap_alloc_new w _
    simp only [World.size_alloc] at hrd
    generalize grownCap (w.alloc (.cells #[.pointer none, .slice none 0 0] 86)) a0.size 0 5 = C at *
    generalize Lib.bytesWorld (w.alloc (.cells #[.pointer none, .slice none 0 0] 86)) 5 a0 = W0 at *
    obtain ⟨l, hl⟩ : ∃ l, l = a0.data.toList := ⟨_, rfl⟩
    have hll : l.length = a0.size := by rw [hl, Array.length_toList]; rfl
    have HLL := Aside0.mk hll
    have HL := Aside0.mk hl
    have HRD := Aside0.mk hrd
    have HBL := Aside0.mk hbl
    have HBB := Aside0.mk hbb
    have hle : l.length ≤ 140737488355327 := by omega
    clear hrd hbl hbb kb hl hll
    go_loopw [9] (fun i wr => LowRel w W0 l i wr) (fun i _ => a0.size - (intOf i).toNat)
    case atStart =>
      exact ⟨0, .slice none 0 0, Nat.zero_le _, rfl, .inl ⟨Nat.le_refl _, HBB.out, own_nil _ _ _ _, by simp [Value.ownBlock]⟩, Kp.refl _ _, fun j e => by simp [Value.ownBlock] at e⟩
    case round =>
      obtain ⟨k, v, hk, rfl, hB, hK, hv⟩ := hrel
      have H1 := Aside0.mk hB
      have H2 := Aside0.mk hK
      have H3 := Aside0.mk hv
      clear hB hK hv
      by_cases hlt : k < a0.size
      · obtain ⟨x, hx⟩ : ∃ x : Int, x = ((l[k]'(by have := HLL.out; omega)).toNat : Int) := ⟨_, rfl⟩
        have x0 : 0 ≤ x := by omega
        have x1 : x ≤ 255 := by have := (l[k]'(by have := HLL.out; omega)).toNat_lt; omega
        have hc : wr.cell? ⟨w.heap.size + 1, k, none⟩ = some (.int .u8 x) := by
          obtain ⟨ad, e, hc⟩ := HRD.out.at_ (k : Int) (by omega) (by omega)
          obtain rfl := Option.some.inj e
          rw [add_plain, Int.toNat_natCast, rd_bytesOf] at hc
          have hbt : bt a0 (k : Int) = x := by
            unfold bt
            rw [dif_pos (by simpa using hlt), hx]
            congr 1
            have hl := HL.out
            subst hl
            rfl
          rw [hbt] at hc
          exact H2.out.cell hc (by simp)
        have HX := Aside0.mk hx
        have HW : Aside0 (w.heap.size ≤ wr.heap.size) := ⟨Nat.le_trans HBL.out.size H2.out.size⟩
        clear hx
        rcases (by omega : (65 ≤ x ∧ x ≤ 90) ∨ x < 65 ∨ 90 < x) with ⟨hx1, hx2⟩ | hx1 | hx1
        · have hor := or32' x hx1 hx2
          go_wp2_with fail
          refine (WriteByte_any w.heap.size w.heap.size v _ (x + 32) wr H1.out (by rw [Lib.byteCells_length, List.length_map]; have := List.length_take_le k l; omega) HW.out).mono ?_
          rintro e w2 ⟨v2, rfl, hB2, hK2, hv2⟩
          have HB2 := Aside0.mk hB2
          have HK2 := Aside0.mk hK2
          have HV2 := Aside0.mk hv2
          clear hB2 hK2 hv2 hor
          go_wp2
          go_roundw
          case rel => exact low_step HLL.out hlt H2.out H3.out HX.out (.inl ⟨hx1, hx2⟩) (by rw [if_pos ⟨hx1, hx2⟩]) HB2.out HK2.out HV2.out
          case measure => simp [intOf]; omega
        · go_wp2_with fail
          refine (WriteByte_any w.heap.size w.heap.size v _ x wr H1.out (by rw [Lib.byteCells_length, List.length_map]; have := List.length_take_le k l; omega) HW.out).mono ?_
          rintro e w2 ⟨v2, rfl, hB2, hK2, hv2⟩
          have HB2 := Aside0.mk hB2
          have HK2 := Aside0.mk hK2
          have HV2 := Aside0.mk hv2
          clear hB2 hK2 hv2
          go_wp2
          go_roundw
          case rel => exact low_step HLL.out hlt H2.out H3.out HX.out (.inr (.inl hx1)) (by rw [if_neg (by omega)]) HB2.out HK2.out HV2.out
          case measure => simp [intOf]; omega
        · go_wp2_with fail
          refine (WriteByte_any w.heap.size w.heap.size v _ x wr H1.out (by rw [Lib.byteCells_length, List.length_map]; have := List.length_take_le k l; omega) HW.out).mono ?_
          rintro e w2 ⟨v2, rfl, hB2, hK2, hv2⟩
          have HB2 := Aside0.mk hB2
          have HK2 := Aside0.mk hK2
          have HV2 := Aside0.mk hv2
          clear hB2 hK2 hv2
          go_wp2
          go_roundw
          case rel => exact low_step HLL.out hlt H2.out H3.out HX.out (.inr (.inr hx1)) (by rw [if_neg (by omega)]) HB2.out HK2.out HV2.out
          case measure => simp [intOf]; omega
      · have hk' : k = l.length := by have := HLL.out; omega
        have h1 := H1.out
        rw [hk', List.take_length] at h1
        have H1' := Aside0.mk h1
        have HK' := Aside0.mk hk'
        have HW : Aside0 (w.heap.size ≤ wr.heap.size) := ⟨Nat.le_trans HBL.out.size H2.out.size⟩
        clear h1 hk'
        go_wp2_with fail
        refine (Tryd.Builder_String_any w.heap.size w.heap.size (l.map low1) wr (BAt.is H1'.out) HW.out).mono ?_
        rintro e w2 ⟨rfl, hb2⟩
        have HB2 := Aside0.mk hb2
        clear hb2
        go_wp2
        go_ret
        refine ⟨?_, HBL.out.trans ((H2.out.belowB HBL.out.size fun k e => by omega).trans HB2.out)⟩
        show Ending.returned (Value.string ⟨(l.map low1).toArray⟩) = _
        rw [HL.out]
        rfl
  · cases h
end Go.Proofs.YtencimfeipglaaaDoor.X
