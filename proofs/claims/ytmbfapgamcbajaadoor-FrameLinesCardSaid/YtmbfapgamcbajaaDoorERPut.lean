/- The document's Put: what it gives. -/
import Derived.Test.YtmbfapgamcbajaaDoorEFPut
import Derived.Test.YtmbfapgamcbajaaDoorPRefK
import Derived.Test.YtmbfapgamcbajaaDoorXx3
set_option linter.unusedVariables false
set_option linter.unusedSimpArgs false
namespace Go.Proofs.YtmbfapgamcbajaaDoor.X
open Go.RowKit Go.Proofs.YtmbfapgamcbajaaDoorW.PrintWords

theorem text_ref (n : Nat) (h : n < 10000000000) (w : World) : Calls Tryd.prog 54 #[.int .i64 (n : Int)] w fun e w' => e = .returned (.string (textB (n : Int))) ∧ Below w.heap.size w w' := by
  obtain ⟨K, hK⟩ := ref_text_ev (n : Int) ⟨by omega, by omega⟩
  exact tipstaffref01_Text.calls K _ _ w (hK K (Nat.le_refl _))

set_option maxHeartbeats 4000000 in
set_option maxRecDepth 100000 in
theorem bulk_any (s : ByteArray) (w : World) (hs : s.size ≤ 1000) :
    Calls Tryd.prog 43 #[.string s] w fun e w' => ∃ v : Value, e = .returned v ∧ Aside0 (OwnM w' w.heap.size 5 v (nums .u8 (NB (bulkU s)))) ∧ Below w.heap.size w w' := by
  obtain ⟨T, hT⟩ : ∃ T, T = textB (s.size : Int) := ⟨_, rfl⟩
  have hTs : T.size ≤ 10 := by rw [hT]; exact textN_size _ (by omega)
  have hz1 : (⟨#[36]⟩ : ByteArray).size + T.size ≤ 9223372036854775807 := by rw [one_size]; omega
  have hz2 : ((⟨#[36]⟩ : ByteArray) ++ T).size + (⟨#[13, 10]⟩ : ByteArray).size ≤ 9223372036854775807 := by rw [app_size, one_size, two_size]; omega
  have hz3 : ((⟨#[36]⟩ : ByteArray) ++ T ++ (⟨#[13, 10]⟩ : ByteArray)).size + s.size ≤ 9223372036854775807 := by rw [app_size, app_size, one_size, two_size]; omega
  have hz4 : ((⟨#[36]⟩ : ByteArray) ++ T ++ (⟨#[13, 10]⟩ : ByteArray) ++ s).size + (⟨#[13, 10]⟩ : ByteArray).size ≤ 9223372036854775807 := by rw [app_size, app_size, app_size, one_size, two_size]; omega
  obtain ⟨B, hB⟩ : ∃ B, B = (⟨#[36]⟩ : ByteArray) ++ T ++ (⟨#[13, 10]⟩ : ByteArray) ++ s ++ (⟨#[13, 10]⟩ : ByteArray) := ⟨_, rfl⟩
  have HBd := Aside0.mk (show B.data.toList = bulkU s by rw [hB, hT]; exact bulk_text s)
  have hBs : B.size ≤ 1015 := by rw [hB, app_size, app_size, app_size, app_size, one_size, two_size]; omega
  have HBe := Aside0.mk hB
  have HTc := Aside0.mk (fun w => text_ref s.size (by omega) w)
  rw [← hT] at HTc
  clear hT hB
  go_enter Tryd.func43, Tryd.ntmps43
  go_wp2_with (go_at_call 54; refine (HTc.out _).mono ?_; rintro e w1 ⟨rfl, hb⟩; have HB1 := Aside0.mk hb; clear hb; have hcv := Lib.run_convert_string_bytes (P := Tryd.prog) w1 9 22 5 B Tryd.underlying9 Tryd.underlying22 Tryd.underlying5; have HO0 := Aside0.mk (own_conv w1 5 B (by simp only [maxLen]; omega)); rw [bytes_NB, HBd.out] at HO0; have HW0 := Aside0.mk (bytes_below HB1.out HB1.out.size 5 B); obtain ⟨w2, hw2⟩ : ∃ w2, Lib.bytesWorld w1 5 B = w2 := ⟨_, rfl⟩; rw [hw2] at hcv HO0 HW0; obtain ⟨cap, hcap⟩ : ∃ cap, grownCap w1 B.size 0 5 = cap := ⟨_, rfl⟩; rw [hcap] at hcv HO0; have HO := Aside0.mk (HO0.out.lower HB1.out.size); have hcv2 : (convert 9 22 (.string ((⟨#[36]⟩ : ByteArray) ++ T ++ (⟨#[13, 10]⟩ : ByteArray) ++ s ++ (⟨#[13, 10]⟩ : ByteArray)))).run Tryd.prog w1 = .ok (.slice (some ⟨w1.heap.size, 0, none⟩) B.size cap) w2 := (by rw [← HBe.out]; exact hcv); clear hw2 hcap HO0 hcv)
  go_ret
  exact ⟨_, rfl, HO, HW0.out⟩

/-- A row of rows of bytes that a call has made. -/
def Ins (w : World) (base : Nat) (vs : List Value) (l : List ByteArray) : Prop := ∀ (i : Nat) (v : Value) (x : ByteArray), vs[i]? = some v → l[i]? = some x → OwnM w base 5 v (nums .u8 (NB (bulkU x)))
theorem Ins.move {w w1 : World} {base : Nat} {vs : List Value} {l : List ByteArray} (h : Ins w base vs l) (hb : ∀ (g : Nat) (cur : Array Value) (fz : Nat × Nat), w.heap[g]? = some (.cells cur 5 fz) → w1.heap[g]? = w.heap[g]?) : Ins w1 base vs l := by
  intro i v x hv hx
  have ho := h i v x hv hx
  refine ho.move fun k hk => ?_
  obtain ⟨_, _, cur, fz, hc⟩ := ho.lt k hk
  exact hb k cur fz hc
theorem Ins.below {w w1 : World} {base : Nat} {vs : List Value} {l : List ByteArray} (h : Ins w base vs l) (hb : Below w.heap.size w w1) : Ins w1 base vs l :=
  h.move fun g cur fz hg => hb.block g (Array.getElem?_eq_some_iff.1 hg).1

set_option maxHeartbeats 4000000 in
set_option maxRecDepth 100000 in
theorem array_any (b0 : Nat) (A : Option Addr) (c : Nat) (vs : List Value) (l : List ByteArray) (w : World) (hvl : vs.length = l.length) (hc : l.length ≤ c)
    (hA : 0 < l.length → ∃ ad, A = some ad ∧ ∀ i v, vs[i]? = some v → w.cell? (ad.add i) = some v) (hI : Ins w b0 vs l) (hl : l.length ≤ 1000) (hs : ∀ x ∈ l, x.size ≤ 1000) :
    Calls Tryd.prog 44 #[.slice A l.length c] w fun e w' => ∃ v : Value, e = .returned v ∧ Aside0 (OwnM w' w.heap.size 5 v (nums .u8 (NB (putU l)))) ∧ Below w.heap.size w w' := by
  have HA := Aside0.mk hA
  have HI := Aside0.mk hI
  have HS := Aside0.mk hs
  have HV := Aside0.mk hvl
  obtain ⟨T, hT⟩ : ∃ T, T = textB (l.length : Int) := ⟨_, rfl⟩
  have hTs : T.size ≤ 10 := by rw [hT]; exact textN_size _ (by omega)
  have hz1 : (⟨#[42]⟩ : ByteArray).size + T.size ≤ 9223372036854775807 := by rw [one_size]; omega
  have hz2 : ((⟨#[42]⟩ : ByteArray) ++ T).size + (⟨#[13, 10]⟩ : ByteArray).size ≤ 9223372036854775807 := by rw [app_size, one_size, two_size]; omega
  obtain ⟨S, hS⟩ : ∃ S, S = (⟨#[42]⟩ : ByteArray) ++ T ++ (⟨#[13, 10]⟩ : ByteArray) := ⟨_, rfl⟩
  have hSd : S.data.toList = lineP 42 l.length := by rw [hS, hT]; exact line_text 42 l.length
  have hSs : S.size ≤ 13 := by rw [hS, app_size, app_size, one_size, two_size]; omega
  have HSe := Aside0.mk hS
  have HSd := Aside0.mk hSd
  have HTc := Aside0.mk (fun w => text_ref l.length (by omega) w)
  rw [← hT] at HTc
  clear hA hI hs hT hS hSd hvl
  go_enter Tryd.func44, Tryd.ntmps44
  go_wp2_with (go_at_call 54; refine (HTc.out _).mono ?_; rintro e w1 ⟨rfl, hb⟩; have HB1 := Aside0.mk hb; clear hb; have hcv := Lib.run_convert_string_bytes (P := Tryd.prog) w1 9 22 5 S Tryd.underlying9 Tryd.underlying22 Tryd.underlying5; have HO0 := Aside0.mk (own_conv w1 5 S (by simp only [maxLen]; omega)); rw [bytes_NB, HSd.out] at HO0; have HW0 := Aside0.mk (bytes_below HB1.out HB1.out.size 5 S); obtain ⟨w2, hw2⟩ : ∃ w2, Lib.bytesWorld w1 5 S = w2 := ⟨_, rfl⟩; rw [hw2] at hcv HO0 HW0; obtain ⟨cap, hcap⟩ : ∃ cap, grownCap w1 S.size 0 5 = cap := ⟨_, rfl⟩; rw [hcap] at hcv HO0; have HO := Aside0.mk (HO0.out.lower HB1.out.size); have hcv2 : (convert 9 22 (.string ((⟨#[42]⟩ : ByteArray) ++ T ++ (⟨#[13, 10]⟩ : ByteArray)))).run Tryd.prog w1 = .ok (.slice (some ⟨w1.heap.size, 0, none⟩) S.size cap) w2 := (by rw [← HSe.out]; exact hcv); clear hw2 hcap HO0 hcv)
  go_loopw [3, 4] (fun v3 v14 wr => ∃ k : Nat, k ≤ l.length ∧ v14 = .int .i64 k ∧ Aside0 (OwnM wr w.heap.size 5 v3 (nums .u8 (NB (lineP 42 l.length ++ ((l.take k).map bulkU).flatten)))) ∧ Aside0 (Below w.heap.size w wr)) (fun _ v14 _ => l.length - (intOf v14).toNat)
  case atStart => exact ⟨0, Nat.zero_le _, rfl, ⟨by simpa using HO.out⟩, HW0⟩
  case round =>
    clear hcv2
    obtain ⟨k, hk, rfl, HO, HB⟩ := hrel
    by_cases hlt : k < l.length
    · obtain ⟨ad, e0, hcell⟩ := HA.out (by omega)
      subst e0
      obtain ⟨x, hx⟩ : ∃ x, l[k] = x := ⟨_, rfl⟩
      obtain ⟨v, hv⟩ : ∃ v, vs[k]'(by rw [HV.out]; exact hlt) = v := ⟨_, rfl⟩
      have hvk : vs[k]? = some v := by rw [List.getElem?_eq_getElem (by rw [HV.out]; exact hlt), hv]
      have hc0 := hcell k v hvk
      have hc1 := (HB.out.cell (World.block_lt_of_cell? w _ hc0)).trans hc0
      have HXs := Aside0.mk (HS.out x (by rw [← hx]; exact List.getElem_mem hlt))
      have HTk := Aside0.mk (show l.take (k + 1) = l.take k ++ [x] by rw [List.take_succ_eq_append_getElem hlt, hx])
      have HFl := Aside0.mk (flat_len (l.take k) 1020 (fun v hv => bulk_len v (HS.out v (List.mem_of_mem_take hv))))
      have HOi := (HI.out.below HB.out) k v x hvk (by rw [List.getElem?_eq_getElem hlt, hx])
      obtain ⟨A', c', e1, hc', hC'⟩ := HOi.reads
      obtain ⟨y, hy⟩ : ∃ y, NB (bulkU x) = y := ⟨_, rfl⟩
      rw [hy] at e1 hc' hC'
      have HY := Aside0.mk hC'
      have HYe := Aside0.mk hy
      have HYl := Aside0.mk (show y.length ≤ 1020 by rw [← hy, NB_len]; exact bulk_len x HXs.out)
      obtain ⟨q, hq⟩ : ∃ q, y.length = q := ⟨_, rfl⟩
      have HQ := Aside0.mk hq
      rw [hq] at e1
      subst e1
      have hkI : (k : Int) < l.length := by omega
      clear hcell hx hc0 hvk hv HOi hC' hy hq hc'
      go_wp2_with (at_builtin; refine appM_row (w0 := w) w.heap.size rfl (.tmp 17) (.tmp 21) 22 5 rfl Tryd.underlying22 infoB _ _ y A' c' rfl (by rw [HQ.out]; rfl) HY.out HO.out HB.out HB.out.size ?hl ?_; (case hl => rw [NB_len, List.length_append, lineP_len]; have h1 := HFl.out; have h2 := itoaN_len l.length (by omega); have h3 : (l.take k).length ≤ 1000 := (by rw [List.length_take]; omega); have h4 := HYl.out; omega); intro v4 w4 ho hb hg; have HO4 := Aside0.mk ho; have HB4 := Aside0.mk hb; clear ho hb hg)
      go_roundw
      case rel =>
        refine ⟨k + 1, by omega, by go_num, ⟨?_⟩, HB4⟩
        have ho := HO4.out
        rw [← HYe.out, ← NB_app] at ho
        rw [HTk.out, List.map_append, List.flatten_append, ← List.append_assoc]
        simpa using ho
      case measure => simp [intOf]; omega
    · obtain rfl : k = l.length := by omega
      rw [List.take_length, show lineP 42 l.length ++ (l.map bulkU).flatten = putU l from rfl] at HO
      have hkI : ¬ ((l.length : Int) < l.length) := by omega
      go_wp2
      go_ret
      exact ⟨_, rfl, HO, HB.out⟩
end Go.Proofs.YtmbfapgamcbajaaDoor.X
namespace Go.Proofs.YtmbfapgamcbajaaDoor.X
open Go.RowKit Go.Proofs.YtmbfapgamcbajaaDoorW.PrintWords

theorem infoT : (Tryd.prog.info? 22).map (fun i => (i.zero, i.size, i.bytes)) = some (some (.slice none 0 0), 1, 24) := by kernel_rfl
theorem own_ty {w : World} {base : Nat} {e t : TypeId} {size n g : Nat} {v : Value} {xs : List Value} {cs : Array Value} {fz : Nat × Nat} (h : w.ownsRow base e size v n xs) (hg : w.heap[g]? = some (.cells cs t fz)) (hne : e ≠ t) : some g ≠ v.ownBlock := by
  rcases h.2 with ⟨rfl, _⟩ | ⟨g', cap, cur, rfl, _, hh, _⟩
  · simp [Value.ownBlock]
  · intro he
    simp [Value.ownBlock] at he
    subst he
    rw [hh] at hg
    injection hg with h1
    injection h1 with _ h2 _
    exact hne h2
theorem own_cells {w : World} {base n c : Nat} {A : Option Addr} {e : TypeId} {vs : List Value} (h : w.ownsRow base e 1 (.slice A n c) n vs) (h0 : 0 < n) : ∃ ad, A = some ad ∧ ∀ (i : Nat) (v : Value), vs[i]? = some v → w.cell? (ad.add i) = some v := by
  have h' := h
  rcases h.2 with ⟨h1, h2⟩ | ⟨g, cap, cur, h1, _⟩
  · omega
  · injection h1 with h1 _ _
    subst h1
    exact ⟨_, rfl, fun i v hv => h'.cells (g := g) rfl i v hv⟩
theorem Ins.grown {w w1 : World} {base b n : Nat} {v : Value} {xs vs : List Value} {l : List ByteArray} (h : Ins w base vs l) (ho : w.ownsRow b 22 1 v n xs) (hg : w.grownBy w1 v.ownBlock) : Ins w1 base vs l := by
  refine h.move fun g cur fz hc => ?_
  have hne := own_ty ho hc (by decide)
  exact hg.block g (Array.getElem?_eq_some_iff.1 hc).1 hne
theorem Ins.snoc {w : World} {base : Nat} {vs : List Value} {l : List ByteArray} {v : Value} {x : ByteArray} (h : Ins w base vs l) (hx : l[vs.length]? = some x) (hv : OwnM w base 5 v (nums .u8 (NB (bulkU x)))) : Ins w base (vs ++ [v]) l := by
  intro i u y hu hy
  rcases Nat.lt_or_ge i vs.length with hi | hi
  · rw [List.getElem?_append_left hi] at hu
    exact h i u y hu hy
  · rw [List.getElem?_append_right hi] at hu
    have h0 : i - vs.length = 0 := by
      rcases Nat.eq_zero_or_pos (i - vs.length) with h | h
      · exact h
      · rw [List.getElem?_eq_none (by simp; omega)] at hu
        cases hu
    rw [h0] at hu
    have he : i = vs.length := by omega
    subst he
    rw [hx] at hy
    cases hy
    simp at hu
    subst hu
    exact hv

set_option maxHeartbeats 4000000 in
set_option maxRecDepth 100000 in
theorem texts_put (A : Option Addr) (l : List ByteArray) (c : Nat) (w : World) (hC : Kd.C Kd.string w A l.length l) (hc : l.length ≤ c) (hl : l.length ≤ 1000) (hs : ∀ x ∈ l, x.size ≤ 1000) :
    Calls Tryd.prog 33 #[.slice A l.length c] w fun e w' => ∃ v : Value, e = .returned v ∧ Aside0 (OwnM w' w.heap.size 5 v (nums .u8 (NB (putU l)))) ∧ Below w.heap.size w w' := by
  have HC := Aside0.mk hC
  have HS := Aside0.mk hs
  have HC0 := Aside0.mk hc
  clear hC hs hc
  go_enter Tryd.func33, Tryd.ntmps33
  go_wp2
  go_loopw [3, 4] (fun v3 v14 wr => ∃ (k : Nat) (vs : List Value), k ≤ l.length ∧ v14 = .int .i64 k ∧ Aside0 (vs.length = k) ∧ Aside0 (wr.ownsRow w.heap.size 22 1 v3 k vs) ∧ Aside0 (Ins wr w.heap.size vs l) ∧ Aside0 (Below w.heap.size w wr)) (fun _ v14 _ => l.length - (intOf v14).toNat)
  case atStart =>
    refine ⟨0, [], Nat.zero_le _, rfl, ⟨rfl⟩, ⟨?_⟩, ⟨?_⟩, ⟨?_⟩⟩
    · exact World.ownsRow_lit w #[] 0 (Nat.le_refl _) (by simp [maxLen]) rfl
    · intro i v x hv hx
      simp at hv
    · exact (Below.refl _ _).alloc (Nat.le_refl _) _
  case round =>
    obtain ⟨k, vs, hk, rfl, HV, HR, HI, HB⟩ := hrel
    by_cases hlt : k < l.length
    · obtain ⟨ad, e0, hcell⟩ := (Kd.reads_of_C (d := ByteArray.empty) HC.out).2.2 (by omega)
      subst e0
      have hc1 := (HB.out.cell (World.block_lt_of_cell? w _ (hcell k hlt))).trans (hcell k hlt)
      obtain ⟨x, hx⟩ : ∃ x, l.getD k ByteArray.empty = x := ⟨_, rfl⟩
      rw [hx] at hc1
      have hxl : l[k] = x := by rw [← hx, List.getD_eq_getElem?_getD, List.getElem?_eq_getElem hlt]; rfl
      have HXs := Aside0.mk (HS.out x (by rw [← hxl]; exact List.getElem_mem hlt))
      have HXl := Aside0.mk (show l[k]? = some x by rw [List.getElem?_eq_getElem hlt, hxl])
      have hkI : (k : Int) < l.length := by omega
      clear hcell hx hxl
      go_wp2_with (first | (go_at_call 43; refine (bulk_any x _ HXs.out).mono ?_; rintro e w3 ⟨bv, rfl, HBv, hb⟩; obtain ⟨A1, c1, e1, _, _⟩ := HBv.out.reads; obtain ⟨q1, hq1⟩ : ∃ q, (NB (bulkU x)).length = q := ⟨_, rfl⟩; rw [hq1] at e1; subst e1; clear hq1; have HB3 := Aside0.mk (below_then HB.out HB.out.size hb); have HI3 := Aside0.mk (HI.out.below hb); have HR3 := Aside0.mk (pw_own_below HR.out hb); have HBl := Aside0.mk (HBv.out.lower HB.out.size); clear hb HBv) | (at_builtin; go_loud (refine print_append_cells (w0 := w) (W := w3) w.heap.size rfl (.tmp 12) (.tmp 18) 68 22 (.slice none 0 0) 1 24 rfl Tryd.underlying68 infoT rfl (by decide) (by decide) _ k vs [.slice A1 q1 c1] rfl rfl rfl (by simp [Value.oneCell'])  HR3.out HB3.out HB3.out.size (by omega) ?_; intro v4 w4 ho hb hg hat; have HO4 := Aside0.mk ho; have HB4 := Aside0.mk hb; have HG4 := Aside0.mk hg; clear ho hb hg hat)))
      go_roundw
      case rel =>
        refine ⟨k + 1, vs ++ [.slice A1 q1 c1], by omega, by go_num, ⟨by simp [HV.out]⟩, HO4, ⟨?_⟩, HB4⟩
        have h5 := Ins.snoc HI3.out (x := x) (by rw [HV.out]; exact HXl.out) HBl.out
        have h6 := Ins.grown h5 HR3.out HG4.out
        exact h6
      case measure => simp [intOf]; omega
    · obtain rfl : k = l.length := by omega
      have hkI : ¬ ((l.length : Int) < l.length) := by omega
      obtain ⟨A', c', e1⟩ := own_slice HR.out
      subst e1
      have hle := own_le HR.out
      go_wp2_with (go_at_call 44; refine (array_any w.heap.size A' c' vs l _ HV.out hle ?hA HI.out hl HS.out).mono ?_; (case hA => intro h0; exact own_cells HR.out (by omega)); rintro e w4 ⟨v, rfl, HO, hb⟩; have HB4 := Aside0.mk (below_then HB.out HB.out.size hb); clear hb)
      go_ret
      exact ⟨_, rfl, ⟨HO.out.lower HB.out.size⟩, HB4.out⟩

set_option maxHeartbeats 4000000 in
set_option maxRecDepth 100000 in
theorem rput_any (A : Option Addr) (l : List ByteArray) (c : Nat) (w : World) (hC : Kd.C Kd.string w A l.length l) (hc : l.length ≤ c) (hl : l.length ≤ 1000) (hs : ∀ x ∈ l, x.size ≤ 1000) :
    Calls Tryd.prog 16 #[.slice A l.length c] w fun e w' => ∃ (A' : Option Addr) (c' : Nat), e = .returned (.slice A' (putU l).length c') ∧ (putU l).length ≤ c' ∧ BC w' A' (NB (putU l)) ∧ Below w.heap.size w w' := by
  have HT := Aside0.mk (texts_put A l c w hC hc hl hs)
  clear hC hs hc
  go_enter Tryd.func16, Tryd.ntmps16
  go_wp2_with (go_at_call 33; refine HT.out.mono ?_; rintro e w1 ⟨v, rfl, HO, hb⟩; have HB1 := Aside0.mk hb; clear hb)
  obtain ⟨A', c', e1, hc', hC'⟩ := HO.out.reads
  rw [NB_len] at e1 hc'
  go_ret
  exact ⟨A', c', by rw [e1]; rfl, hc', hC', HB1.out⟩
end Go.Proofs.YtmbfapgamcbajaaDoor.X
