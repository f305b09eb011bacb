/- frame.Put: what it gives. -/
import Derived.Test.YtmbfapgamcbajaaDoorOwnM
import Derived.Test.YtmbfapgamcbajaaDoorPFrm4
import Derived.LoopTactic
set_option linter.unusedVariables false
set_option linter.unusedSimpArgs false
namespace Go.Proofs.YtmbfapgamcbajaaDoor.X
open Go.RowKit Go.Proofs.YtmbfapgamcbajaaDoorW.PrintWords

abbrev NB (l : List UInt8) : List Int := l.map fun b => (b.toNat : Int)
theorem NB_len (l : List UInt8) : (NB l).length = l.length := by simp
theorem bytes_NB (s : ByteArray) : bytesOf s = NB s.data.toList := rfl
theorem U_NB (l : List UInt8) : U (NB l) = l := by
  unfold U Go.Lib.bytesOf NB
  rw [List.map_map]
  conv => rhs; rw [← List.map_id l]
  congr 1
  funext b
  simp
theorem NB_app (a b : List UInt8) : NB (a ++ b) = NB a ++ NB b := by simp

/-- The text of a line of a row. -/
theorem line_text (mark : UInt8) (n : Nat) : ((⟨#[mark]⟩ : ByteArray) ++ textB (n : Int) ++ (⟨#[13, 10]⟩ : ByteArray)).data.toList = lineP mark n := by
  rw [app_data, app_data, textB_data]
  rfl
theorem bulk_text (w : ByteArray) : ((⟨#[36]⟩ : ByteArray) ++ textB (w.size : Int) ++ (⟨#[13, 10]⟩ : ByteArray) ++ w ++ (⟨#[13, 10]⟩ : ByteArray)).data.toList = bulkU w := by
  rw [app_data, app_data, line_text]
  rfl
theorem textN_size (n : Nat) (h : n < 10000000000) : (textB (n : Int)).size ≤ 10 := by rw [textB_size]; exact itoaN_len n h
theorem one_size (c : UInt8) : (⟨#[c]⟩ : ByteArray).size = 1 := rfl
theorem two_size (c d : UInt8) : (⟨#[c, d]⟩ : ByteArray).size = 2 := rfl
theorem app_size (s t : ByteArray) : (s ++ t).size = s.size + t.size := ByteArray.size_append

theorem flat_len : ∀ (l : List ByteArray) (k : Nat), (∀ w ∈ l, (bulkU w).length ≤ k) → ((l.map bulkU).flatten).length ≤ l.length * k
  | [], k, _ => by simp
  | w :: l, k, h => by
    have h1 := h w List.mem_cons_self
    have h2 := flat_len l k (fun v hv => h v (List.mem_cons_of_mem _ hv))
    simp only [List.map_cons, List.flatten_cons, List.length_append, List.length_cons, Nat.add_mul]
    omega
theorem bulk_len (w : ByteArray) (h : w.size ≤ 1000) : (bulkU w).length ≤ 1020 := by
  have := itoaN_len w.size (by omega)
  simp only [bulkU, List.length_append, lineP_len, size_data, List.length_cons, List.length_nil]
  omega

set_option maxHeartbeats 4000000 in
set_option maxRecDepth 100000 in
theorem put_any (A : Option Addr) (l : List ByteArray) (c : Nat) (w : World) (hLd : Ld w) (hC : Kd.C Kd.string w A l.length l) (hc : l.length ≤ c) (hl : l.length ≤ 1000) (hs : ∀ x ∈ l, x.size ≤ 1000) :
    Calls Tryd.prog 15 #[.slice A l.length c] w fun e w' => ∃ (A' : Option Addr) (c' : Nat), e = .returned (.slice A' (putU l).length c') ∧ (putU l).length ≤ c' ∧ BC w' A' (NB (putU l)) ∧ Below w.heap.size w w' := by
  have HL := Aside0.mk hLd
  have HC := Aside0.mk hC
  have HS := Aside0.mk hs
  have HT := Aside0.mk (show num_Text.f (l.length : Int) = some (textB (l.length : Int)) by unfold num_Text.f; rw [if_pos ⟨by omega, by omega⟩])
  obtain ⟨T, hT⟩ : ∃ T, T = textB (l.length : Int) := ⟨_, rfl⟩
  rw [← hT] at HT
  have hTs : T.size ≤ 10 := by rw [hT]; exact textN_size _ (by omega)
  have hz1 : (⟨#[42]⟩ : ByteArray).size + T.size ≤ 9223372036854775807 := by rw [one_size]; omega
  have hz2 : ((⟨#[42]⟩ : ByteArray) ++ T).size + (⟨#[13, 10]⟩ : ByteArray).size ≤ 9223372036854775807 := by rw [app_size, one_size, two_size]; omega
  obtain ⟨S, hS⟩ : ∃ S, S = (⟨#[42]⟩ : ByteArray) ++ T ++ (⟨#[13, 10]⟩ : ByteArray) := ⟨_, rfl⟩
  have hSd : S.data.toList = lineP 42 l.length := by rw [hS, hT]; exact line_text 42 l.length
  have hSs : S.size ≤ 13 := by rw [hS, app_size, app_size, one_size, two_size]; omega
  have HSe := Aside0.mk hS
  have HSd := Aside0.mk hSd
  clear hLd hC hs hT hS hSd
  go_enter Tryd.func15, Tryd.ntmps15
  go_wp2_with (go_at_call 32; refine (num_Text.calls _ T _ HL.out HT.out).mono ?_; rintro e w1 ⟨rfl, hb⟩; have HB1 := Aside0.mk hb; clear hb; have hcv := Lib.run_convert_string_bytes (P := Tryd.prog) w1 9 22 5 S Tryd.underlying9 Tryd.underlying22 Tryd.underlying5; have HO0 := Aside0.mk (own_conv w1 5 S (by simp only [maxLen]; omega)); rw [bytes_NB, HSd.out] at HO0; have HW0 := Aside0.mk (bytes_below HB1.out HB1.out.size 5 S); obtain ⟨w2, hw2⟩ : ∃ w2, Lib.bytesWorld w1 5 S = w2 := ⟨_, rfl⟩; rw [hw2] at hcv HO0 HW0; obtain ⟨cap, hcap⟩ : ∃ cap, grownCap w1 S.size 0 5 = cap := ⟨_, rfl⟩; rw [hcap] at hcv HO0; have HO := Aside0.mk (HO0.out.lower HB1.out.size); have hcv2 : (convert 9 22 (.string ((⟨#[42]⟩ : ByteArray) ++ T ++ (⟨#[13, 10]⟩ : ByteArray)))).run Tryd.prog w1 = .ok (.slice (some ⟨w1.heap.size, 0, none⟩) S.size cap) w2 := (by rw [← HSe.out]; exact hcv); clear hw2 hcap HO0 hcv)
  go_loopw [3, 5, 14] (fun v3 _ v14 wr => ∃ k : Nat, k ≤ l.length ∧ v14 = .int .i64 k ∧ Aside0 (OwnM wr w.heap.size 5 v3 (nums .u8 (NB (lineP 42 l.length ++ ((l.take k).map bulkU).flatten)))) ∧ Aside0 (Below w.heap.size w wr)) (fun _ _ v14 _ => l.length - (intOf v14).toNat)
  case atStart => exact ⟨0, Nat.zero_le _, rfl, ⟨by simpa using HO.out⟩, HW0⟩
  case round =>
    clear hcv2
    obtain ⟨k, hk, rfl, HO, HB⟩ := hrel
    by_cases hlt : k < l.length
    · obtain ⟨ad, e0, hcell⟩ := (Kd.reads_of_C (d := ByteArray.empty) HC.out).2.2 (by omega)
      subst e0
      have hc1 := (HB.out.cell (World.block_lt_of_cell? w _ (hcell k hlt))).trans (hcell k hlt)
      obtain ⟨x, hx⟩ : ∃ x, l.getD k ByteArray.empty = x := ⟨_, rfl⟩
      rw [hx] at hc1
      have hxl : l[k] = x := by rw [← hx, List.getD_eq_getElem?_getD, List.getElem?_eq_getElem hlt]; rfl
      have hxs : x.size ≤ 1000 := HS.out x (by rw [← hxl]; exact List.getElem_mem hlt)
      have HTk := Aside0.mk (show l.take (k + 1) = l.take k ++ [x] by rw [List.take_succ_eq_append_getElem hlt, hxl])
      have HTx := Aside0.mk (show num_Text.f (x.size : Int) = some (textB (x.size : Int)) by unfold num_Text.f; rw [if_pos ⟨by omega, by omega⟩])
      have HFl := Aside0.mk (flat_len (l.take k) 1020 (fun v hv => bulk_len v (HS.out v (List.mem_of_mem_take hv))))
      obtain ⟨X, hX⟩ : ∃ X, X = textB (x.size : Int) := ⟨_, rfl⟩
      have hXs : X.size ≤ 10 := by rw [hX]; exact textN_size _ (by omega)
      have HXe := Aside0.mk hX
      rw [← hX] at HTx
      have hz1 : (⟨#[36]⟩ : ByteArray).size + X.size ≤ 9223372036854775807 := by rw [one_size]; omega
      have hz2 : ((⟨#[36]⟩ : ByteArray) ++ X).size + (⟨#[13, 10]⟩ : ByteArray).size ≤ 9223372036854775807 := by rw [app_size, one_size, two_size]; omega
      have hz3 : ((⟨#[36]⟩ : ByteArray) ++ X ++ (⟨#[13, 10]⟩ : ByteArray)).size + x.size ≤ 9223372036854775807 := by rw [app_size, app_size, one_size, two_size]; omega
      have hz4 : ((⟨#[36]⟩ : ByteArray) ++ X ++ (⟨#[13, 10]⟩ : ByteArray) ++ x).size + (⟨#[13, 10]⟩ : ByteArray).size ≤ 9223372036854775807 := by rw [app_size, app_size, app_size, one_size, two_size]; omega
      have hkI : (k : Int) < l.length := by omega
      clear hcell hx hxl hX
      go_wp2_with (first | (go_at_call 32; refine (num_Text.calls _ X _ (HL.out.below HB.out) HTx.out).mono ?_; rintro e w3 ⟨rfl, hb⟩; have HB3 := Aside0.mk (below_then HB.out HB.out.size hb); have HO3 := Aside0.mk (HO.out.below hb); clear hb) | (at_builtin; refine appM_string (w0 := w) w.heap.size rfl (.tmp 18) (.tmp 26) 22 9 5 rfl Tryd.underlying22 Tryd.underlying9 infoB _ _ _ rfl rfl HO3.out HB3.out HB3.out.size ?hl ?_; (case hl => rw [NB_len, List.length_append, lineP_len, app_size, app_size, app_size, app_size, one_size, two_size]; have h1 := HFl.out; have h2 := itoaN_len l.length (by omega); have h3 : (l.take k).length ≤ 1000 := (by rw [List.length_take]; omega); omega); intro v4 w4 ho hb hg; have HO4 := Aside0.mk ho; have HB4 := Aside0.mk hb; clear ho hb hg))
      go_roundw
      case rel =>
        refine ⟨k + 1, by omega, by go_num, ⟨?_⟩, HB4⟩
        have ho := HO4.out
        rw [bytes_NB, ← NB_app, HXe.out, bulk_text] at ho
        rw [HTk.out, List.map_append, List.flatten_append, ← List.append_assoc]
        simpa using ho
      case measure => simp [intOf]; omega
    · obtain rfl : k = l.length := by omega
      rw [List.take_length, show lineP 42 l.length ++ (l.map bulkU).flatten = putU l from rfl] at HO
      obtain ⟨A', c', e1, hc', hC'⟩ := HO.out.reads
      rw [NB_len] at e1 hc'
      obtain ⟨q, hq⟩ : ∃ q, (putU l).length = q := ⟨_, rfl⟩
      rw [hq] at e1
      subst e1
      have HQ := Aside0.mk hq
      have HC' := Aside0.mk hC'
      have hkI : ¬ ((l.length : Int) < l.length) := by omega
      clear hC' hq HO
      go_wp2
      go_ret
      exact ⟨A', c', by rw [HQ.out]; rfl, hc', HC'.out, HB.out⟩

theorem own_empty (W : World) (e : TypeId) (k : IntKind) (ok : Nat → Prop) (h : ok W.heap.size) : (Kd.int k).R e (W.alloc (.cells #[] e)) W.heap.size ok (.slice (some ⟨W.heap.size, 0, none⟩) 0 0) [] := by
  refine Kd.R_of_own ?_ ?_
  · have h := own_lit W W.heap.size e k [] (Nat.le_refl _) (by simp)
    simpa [nums, encs] using h
  · intro j hj
    simp [Value.ownBlock] at hj
    subst hj
    exact h

theorem own_emptyS (W : World) (e : TypeId) (ok : Nat → Prop) (h : ok W.heap.size) : Kd.string.R e (W.alloc (.cells #[] e)) W.heap.size ok (.slice (some ⟨W.heap.size, 0, none⟩) 0 0) [] := by
  refine Kd.R_of_own ?_ ?_
  · have h := own_lit_of (enc := Value.string) W W.heap.size e [] (Nat.le_refl _) (by simp)
    simpa [encs] using h
  · intro j hj
    simp [Value.ownBlock] at hj
    subst hj
    exact h

theorem lit_strs (w : World) (xs : List ByteArray) (fr : Nat × Nat) (hm : xs.length ≤ 9223372036854775807) : Kd.C Kd.string (w.alloc (.cells (xs.map Value.string).toArray 9 fr)) (some ⟨w.heap.size, 0, none⟩) xs.length xs := by
  refine Kd.C_of_reads (d := ByteArray.empty) (h1 := fun _ => rfl) ⟨rfl, hm, fun _ => ⟨_, rfl, fun j hj => ?_⟩⟩
  rw [add_plain]
  have hh : (w.alloc (.cells (xs.map Value.string).toArray 9 fr)).heap[w.heap.size]? = some (.cells (xs.map Value.string).toArray 9 fr) := by
    show (w.heap.push _)[w.heap.size]? = _
    simp
  unfold World.cell?
  dsimp only
  rw [hh]
  simp [hj]

theorem put_q (w0 : World) (A : Option Addr) (l : List ByteArray) (c : Nat) (w : World) (hLd : Ld w0) (hB : Below w0.heap.size w0 w) (m : Nat) (hm : m = l.length) (hC : Kd.C Kd.string w A l.length l) (hc : l.length ≤ c) (hl : l.length ≤ 1000) (hs : ∀ x ∈ l, x.size ≤ 1000) (q : Nat) (hq : (putU l).length = q) (b : List Int) (hb : NB (putU l) = b) :
    Calls Tryd.prog 15 #[.slice A m c] w fun e w' => ∃ (A' : Option Addr) (c' : Nat), e = .returned (.slice A' q c') ∧ Aside0 (q ≤ c') ∧ Aside0 (BC w' A' b) ∧ Aside0 (Below w0.heap.size w0 w') ∧ Aside0 (Below w.heap.size w w') := by
  subst hm
  refine (put_any A l c w (hLd.below hB) hC hc hl hs).mono ?_
  rintro e w' ⟨A', c', rfl, h1, h2, h3⟩
  subst hq hb
  exact ⟨A', c', rfl, ⟨h1⟩, ⟨h2⟩, ⟨below_then hB hB.size h3⟩, ⟨h3⟩⟩

theorem next_q (w0 : World) (A : Option Addr) (b : List Int) (c : Nat) (w : World) (hLd : Ld w0) (hB : Below w0.heap.size w0 w) (q : Nat) (hq : b.length = q) (hb : BC w A b) (hc : q ≤ c) (hlen : q ≤ 1000000) (r1 : List ByteArray) (r2 r3 : Int) (hr : nextB b = (r1, r2, r3)) (m : Nat) (hm : r1.length = m) :
    Calls Tryd.prog 11 #[.slice A q c] w fun e w' => ∃ (A1 : Option Addr) (c1 : Nat), e = .returned (.tuple #[.slice A1 m c1, .int .i64 r2, .int .i64 r3]) ∧ Aside0 (m ≤ c1) ∧ Aside0 (Kd.C Kd.string w' A1 r1.length r1) ∧ Aside0 (Below w0.heap.size w0 w') ∧ Aside0 (Below w.heap.size w w') := by
  subst hq hm
  refine (next_any A b c w (hLd.below hB) hb hc hlen r1 r2 r3 hr).mono ?_
  rintro e w' ⟨v0, rfl, hR, hB'⟩
  obtain ⟨A1, c1, rfl, hc1, hC1⟩ := Kd.R_reads hR
  exact ⟨A1, c1, rfl, ⟨hc1⟩, ⟨hC1⟩, ⟨below_then hB hB.size hB'⟩, ⟨hB'⟩⟩

end Go.Proofs.YtmbfapgamcbajaaDoor.X
