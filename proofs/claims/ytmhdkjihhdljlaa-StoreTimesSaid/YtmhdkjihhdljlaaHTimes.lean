/- StoreTimes: its walk. -/
import Derived.Test.YtmhdkjihhdljlaaStFit
import Derived.Test.YtmhdkjihhdljlaaXx16
import Derived.IntWalk
set_option linter.unusedVariables false
set_option linter.unusedSimpArgs false
namespace Go.Proofs.Ytmhdkjihhdljlaa.X
open Go.RowKit Go.Maps Go.ChangeMaps Go.MapKept Go.Proofs.Ytmhdkjihhdljlaa.Mv Go.Proofs.YtmhdkjihhdljlaaW.PrintWords Go.Proofs.YtmhdkjihhdljlaaW.PrintMore
attribute [local go_sem] fieldV0 fieldV1
abbrev tx : ByteArray := ⟨#[120]⟩
abbrev ty : ByteArray := ⟨#[121]⟩
def eX (k : ByteArray) : Ent := ⟨k, txtV tx, 0, false⟩
def eY (p : Int) (o : Bool) : Ent := ⟨ka, txtV ty, p, o⟩
def F1 : List Ent := [eX ka]
def F2 : List Ent := [eX ka, eX kb]
def F3 (p : Int) : List Ent := [⟨ka, txtV tx, p, false⟩, eX kb]
def F4 (p : Int) (o : Bool) : List Ent := [eY p o, eX kb]
def F5 : List Ent := [eX kb]
theorem f_1 : putE ka (txtV tx) [] = F1 := by simp [putE, letE, fndE, insE, txtV, F1, eX]
theorem f_2 : putE kb (txtV tx) F1 = F2 := by simp [putE, letE, fndE, insE, txtV, F1, F2, eX, show ([97] : List UInt8) < [98] by decide]
theorem f_s (a : Int) (h : 1 ≤ a) : setE ka 0 a true F2 = F3 a := by simp [setE, letE, fndE, updE, F2, F3, eX, show ¬ a ≤ 0 by omega]
theorem f_s0 : setE ka 0 0 true F2 = F5 := by simp [setE, letE, fndE, dropE, F2, F5, eX]
theorem f_sr : (fndE ka (letE ka F2)).isSome = true := by simp [letE, fndE, F2, eX]
theorem f_c (a p : Int) : setE kc 0 a true (F3 p) = F3 p ∧ (fndE kc (letE kc (F3 p))).isSome = false := by simp [setE, letE, fndE, F3, eX]
theorem f_c5 (a : Int) : setE kc 0 a true F5 = F5 ∧ (fndE kc (letE kc F5)).isSome = false := by simp [setE, letE, fndE, F5, eX]
theorem f_y (p : Int) : putE ka (txtV ty) (F3 p) = F4 p false := by simp [putE, letE, fndE, updE, txtV, F3, F4, eX, eY]
theorem f_y5 : putE ka (txtV ty) F5 = F4 0 false := by simp [putE, letE, fndE, insE, txtV, F5, F4, eX, eY, show ¬ (([98] : List UInt8) < [97]) by decide]
theorem f_d4 (p : Int) (h : 1 ≤ p) : dueE (fndE ka (letE ka (F4 p false))) = p ∧ onE (fndE ka (letE ka (F4 p false))) = true ∧ letE ka (F4 p false) = F4 p false := by
  refine ⟨?_, ?_, ?_⟩ <;> simp [dueE, onE, letE, fndE, F4, eY, eX] <;> omega
theorem f_d0 : dueE (fndE ka (letE ka (F4 0 false))) = 0 ∧ onE (fndE ka (letE ka (F4 0 false))) = false ∧ letE ka (F4 0 false) = F4 0 false := by
  refine ⟨?_, ?_, ?_⟩ <;> simp [dueE, onE, letE, fndE, F4, eY, eX]
theorem f_d5 : dueE (fndE ka (letE ka F5)) = 0 ∧ onE (fndE ka (letE ka F5)) = false ∧ letE ka F5 = F5 := by
  refine ⟨?_, ?_, ?_⟩ <;> simp [dueE, onE, letE, fndE, F5, eX]
theorem f_dp (p : Int) : dueE (fndE ka (letE ka (F4 p true))) = 0 ∧ onE (fndE ka (letE ka (F4 p true))) = false ∧ letE ka (F4 p true) = F5 := by
  refine ⟨?_, ?_, ?_⟩ <;> simp [dueE, onE, letE, fndE, F4, F5, eY, eX]
theorem f_g4 (p : Int) : valE (fndE ka (letE ka (F4 p false))) = txtV ty ∧ letE ka (F4 p false) = F4 p false := by
  refine ⟨?_, ?_⟩ <;> simp [letE, fndE, valE, F4, eY, eX]
theorem f_g5 : valE (fndE ka (letE ka F5)) = noneV ∧ letE ka F5 = F5 := by
  refine ⟨?_, ?_⟩ <;> simp [letE, fndE, valE, F5, eX]
theorem f_b4 (p : Int) : valE (fndE kb (letE kb (F4 p false))) = txtV tx ∧ letE kb (F4 p false) = F4 p false := by
  refine ⟨?_, ?_⟩ <;> simp [letE, fndE, valE, F4, eY, eX]
theorem f_b5 : valE (fndE kb (letE kb F5)) = txtV tx ∧ letE kb F5 = F5 := by
  refine ⟨?_, ?_⟩ <;> simp [letE, fndE, valE, F5, eX]
theorem f_t4 (t p : Int) (h : t < p) : tickE t (F4 p false) = F4 p false := by
  simp [tickE, tick1, dueNow, F4, eY, eX]; omega
theorem f_t4p (t p : Int) (h0 : 1 ≤ p) (h : p ≤ t) : tickE t (F4 p false) = F4 p true := by
  simp [tickE, tick1, dueNow, F4, eY, eX]; omega
theorem f_tp (t p : Int) : tickE t (F4 p true) = F4 p true := by simp [tickE, tick1, dueNow, F4, eY, eX]
theorem f_t5 (t : Int) : tickE t F5 = F5 := by simp [tickE, tick1, dueNow, F5, eX]
theorem f_k4 (p : Int) : keysE (F4 p false) = [ka, kb] := by simp [keysE, F4, eY, eX]
theorem f_k5 : keysE F5 = [kb] := by simp [keysE, F5, eX]
/-- The keys at a time: with the deadline ahead, or past and let go of. -/
def GE (p t : Int) : List Ent := if t < p then F4 p false else F5
theorem int_at {w : World} {A : Option Addr} {l : List Int} (h : (Kd.int .u16).C w A l.length l) {i : Nat} (hi : i < l.length) : ∃ ad, A = some ad ∧ w.cell? (ad.add i) = some (.int .u16 (l.getD i 0)) := by
  obtain ⟨ad, e, hc⟩ := (Kd.reads_of_C (d := (0 : Int)) h).2.2 (by omega)
  exact ⟨ad, e, hc i hi⟩
theorem bit_any (b : Bool) (r : Int) (hr : (if b = true then 1 else 0) = r) (w : World) : Calls Try.prog 22 #[.bool b] w fun e w' => e = .returned (.int .u8 r) ∧ Aside0 (Below w.heap.size w w') := by
  refine (tipstafflaw10_bit.calls b r w (by unfold tipstafflaw10_bit.f; rw [← hr]; cases b <;> rfl)).mono ?_
  rintro e w' ⟨rfl, h⟩
  exact ⟨rfl, ⟨h.below⟩⟩
set_option maxHeartbeats 4000000 in
set_option maxRecDepth 100000 in
theorem StoreTimes_walk (due : Int) (A1 : Option Addr) (l : List Int) (c1 : Nat) (w : World) (hl : (Kd.int .u16).C w A1 l.length l) (hc : l.length ≤ c1) (hd : 0 ≤ due ∧ due ≤ 65535) (hok : ∀ x ∈ l, 0 ≤ x ∧ x ≤ 65535) :
    Calls Try.prog 6 #[.int .u16 due, .slice A1 l.length c1] w fun e w' => e = .returned (.bool true) ∧ Below w.heap.size w w' := by
  have HL := Aside0.mk hl
  have HOK := Aside0.mk hok
  have HC := Aside0.mk hc
  clear hl hok hc
  go_enter Try.func6, Try.ntmps6
  go_wp2_with fail
  refine (shown_true w).mono ?_
  rintro e w1 ⟨rfl, HB1⟩
  go_wp2_with fail
  refine (s_new HB1.out).mono ?_
  rintro e w2 ⟨g, me, mc, S2, rfl, H2, HN2, HB2⟩
  go_wp2_with fail
  obtain ⟨w3, hw3, HB3, HC3⟩ := named_alloc w2 #[.int .u8 1, .string tx, .slice none 0 0, .slice none 0 0, .slice none 0 0] 26
  have H3 := Aside0.mk (H2.out.below HB3.out)
  have HNX := Aside0.mk (show ¬ S2 w2.heap.size from fun h => by have := (H2.out.in_ _ h).2; omega)
  obtain ⟨gx, hgx⟩ : ∃ q, w2.heap.size = q := ⟨_, rfl⟩
  rw [hgx] at HC3 HNX
  rw [hw3, hgx]
  clear hw3 hgx
  refine (t_txt ka (by decide) (by decide) (by decide) tx F1 f_1 _ rfl H3.out).mono ?_
  rintro e w4 ⟨rfl, S4, H4⟩
  obtain ⟨hc4, hn4⟩ := H4.out.keep HC3.out HNX.out
  have HC4 := Aside0.mk hc4
  have HN4 := Aside0.mk hn4
  obtain ⟨q0, q1, q2, q3, q4⟩ := cells5 hc4
  clear hc4 hn4
  go_wp2_with fail
  clear q0 q1 q2 q3 q4
  refine (t_txt kb (by decide) (by decide) (by decide) tx F2 f_2 _ rfl H4.out.st).mono ?_
  rintro e w5 ⟨rfl, S5, H5⟩
  have hd0 := hd.1
  have hd1 := hd.2
  by_cases h0 : due = 0
  · subst h0
    go_wp2_with fail
    refine (t_set ka (by decide) (by decide) 0 true true f_sr F5 f_s0 _ rfl H5.out.st).mono ?_
    rintro e w6 ⟨rfl, S6, H6⟩
    go_wp2_with fail
    refine (t_set kc (by decide) (by decide) 0 true false (f_c5 0).2 F5 (f_c5 0).1 _ rfl H6.out.st).mono ?_
    rintro e w7 ⟨rfl, S7, H7⟩
    go_wp2_with fail
    refine (t_txt ka (by decide) (by decide) (by decide) ty (F4 0 false) f_y5 _ rfl H7.out.st).mono ?_
    rintro e w8 ⟨rfl, S8, H8⟩
    go_wp2_with fail
    refine (t_due ka (by decide) 0 f_d0.1 false f_d0.2.1 (F4 0 false) f_d0.2.2 H8.out.st).mono ?_
    rintro e w9 ⟨rfl, S9, H9⟩
    go_wp2_with fail
    refine (t_get ka (by decide) (txtV ty) (f_g4 0).1 (F4 0 false) (f_g4 0).2 H9.out.st).mono ?_
    rintro e w10 ⟨A2, A3, A4, c2, c3, c4, S10, rfl, _, _, H10⟩
    simp only [txtV]
    go_wp2
    go_ret
    exact ⟨rfl, H10.out.st.below0⟩
  · have hd2 : 1 ≤ due := by omega
    have hd3 : (due == 0) = false := by simpa using h0
    clear h0
    go_wp2_with fail
    refine (t_set ka (by decide) (by decide) due true true f_sr (F3 due) (f_s due hd2) _ rfl H5.out.st).mono ?_
    rintro e w6 ⟨rfl, S6, H6⟩
    go_wp2_with fail
    refine (t_set kc (by decide) (by decide) due true false (f_c due due).2 (F3 due) (f_c due due).1 _ rfl H6.out.st).mono ?_
    rintro e w7 ⟨rfl, S7, H7⟩
    go_wp2_with fail
    refine (t_txt ka (by decide) (by decide) (by decide) ty (F4 due false) (f_y due) _ rfl H7.out.st).mono ?_
    rintro e w8 ⟨rfl, S8, H8⟩
    go_wp2
    have HE8 := Aside0.mk (show F4 due false = GE due 0 by unfold GE; rw [if_pos (by omega)])
    go_loopw [11, 12] (fun v11 v12 wr => ∃ (i : Nat) (t : Int) (S : Nat → Prop) (C : ByteArray → Int), v11 = .int .i64 t ∧ v12 = .int .i64 i ∧ i ≤ 20 ∧ i ≤ l.length ∧ 0 ≤ t ∧ t ≤ i * 4096 ∧ Aside0 (StoreSt w wr S g me mc 3 (5 + 6 * i) t (GE due t) C)) (fun _ v12 _ => 20 - (match v12 with | .int _ i => i.toNat | _ => 0))
    case atStart => exact ⟨0, 0, _, _, rfl, rfl, by omega, by omega, by omega, by omega, ⟨HE8.out ▸ H8.out.st⟩⟩
    case round =>
      clear H3 H4 H5 H6 H7 H8 HE8 HC3 HC4 HN4 HNX HN2 HB3
      obtain ⟨i, t, S, C, rfl, rfl, hi, hil, ht0, ht1, HS⟩ := hrel
      by_cases hlt : i < l.length ∧ i < 20
      · obtain ⟨hl1, hl2⟩ := hlt
        have hI1 : (i : Int) < l.length := by omega
        have hI2 : (i : Int) < 20 := by omega
        obtain ⟨ad, e0, hcell⟩ := int_at (Kd.C_below HL.out HS.out.below0) hl1
        subst e0
        have hx := HOK.out _ (List.getElem_mem hl1)
        rw [show l[i] = l.getD i 0 by rw [List.getD_eq_getElem?_getD, List.getElem?_eq_getElem hl1]; rfl] at hx
        obtain ⟨x, hxe⟩ : ∃ x, l.getD i 0 = x := ⟨_, rfl⟩
        rw [hxe] at hx hcell
        obtain ⟨p, hp⟩ : ∃ p, ad.add i = p := ⟨_, rfl⟩
        rw [hp] at hcell
        have hx0 := hx.1
        have hx1 := hx.2
        clear hxe hx
        go_wp2_with fail
        obtain ⟨n, hn⟩ : ∃ n, x % 4096 = n := ⟨_, rfl⟩
        have HNB := Aside0.mk (show 0 ≤ n ∧ n ≤ 4095 by omega)
        rw [hn]
        clear hn hcell hx0 hx1
        obtain ⟨t', ht'⟩ : ∃ t', t + n = t' := ⟨_, rfl⟩
        have HTB := Aside0.mk (show 0 ≤ t' ∧ t' ≤ (i + 1) * 4096 ∧ t' ≤ 86016 by have := HNB.out; omega)
        have HT1 := Aside0.mk (show timeU t n = t' by have := HNB.out; unfold timeU lst; omega)
        have HT2 := Aside0.mk (show timeU t' (-n) = t' by have := HNB.out; have := HTB.out; unfold timeU lst; omega)
        by_cases hd4 : t' < due
        · have HT := Aside0.mk hd4
          have HE0 := Aside0.mk (show GE due t = F4 due false by unfold GE; rw [if_pos (by have := HNB.out; omega)])
          have HS0 := Aside0.mk (HE0.out ▸ HS.out)
          clear HS HE0
          refine (t_tick n (by unfold maxLen; omega) t' HT1.out (F4 due false) (f_t4 t' due HT.out) _ rfl HS0.out ht0 (by unfold lst; omega)).mono ?_
          rintro e w9 ⟨rfl, S9, H9⟩
          have hnb := HNB.out.2
          have hna := HNB.out.1
          go_wp2_with fail
          clear hna hnb
          refine (t_tick (-n) (by unfold maxLen; omega) t' HT2.out (F4 due false) (f_t4 t' due HT.out) _ rfl H9.out.st HTB.out.1 (by have := HTB.out; unfold lst; omega)).mono ?_
          rintro e w10 ⟨rfl, S10, H10⟩
          have hw : IntKind.i64.wrap (t + n) = t' := by have := HTB.out; rw [← ht']; rw [← ht'] at this; exact IntWalk.i64_in _ (by omega)
          have hnb := HNB.out.2
          have hna := HNB.out.1
          go_wp2_with fail
          clear hna hnb hw
          have HDU := Aside0.mk (f_d4 due hd2)
          have HEE := Aside0.mk (show F4 due false = GE due t' by unfold GE; rw [if_pos HT.out])
          refine (t_due ka (by decide) due HDU.out.1 true HDU.out.2.1 (F4 due false) HDU.out.2.2 H10.out.st).mono ?_
          rintro e w11 ⟨rfl, S11, H11⟩
          have hlt := HT.out
          have hdt := show decide (t' < due) = true by simp; exact hlt
          go_wp2_with fail
          refine (s_now H11.out.st).mono ?_
          rintro e w12 ⟨rfl, hw12⟩
          subst hw12
          go_wp2_with fail
          refine (t_get ka (by decide) (txtV ty) (f_g4 due).1 (F4 due false) (f_g4 due).2 H11.out.st).mono ?_
          rintro e w13 ⟨G2, G3, G4, p2, p3, p4, S13, rfl, _, _, H13⟩
          simp only [txtV]
          go_wp2_with fail
          refine (t_get kb (by decide) (txtV tx) (f_b4 due).1 (F4 due false) (f_b4 due).2 H13.out.st).mono ?_
          rintro e w14 ⟨G2', G3', G4', p2', p3', p4', S14, rfl, _, _, H14⟩
          simp only [txtV]
          go_wp2_with fail
          refine (t_keys [ka, kb] (f_k4 due) 2 rfl (by decide) H14.out.st).mono ?_
          rintro e w15 ⟨B, k, rfl, _, _, H15, _⟩
          go_wp2_with fail
          refine (bit_any true 1 rfl w15).mono ?_
          rintro e w16 ⟨rfl, HB16⟩
          have H16 := Aside0.mk (H15.out.below HB16.out)
          go_wp2
          exact ⟨⟨i + 1, t', S14, _, rfl, by simp, by omega, by omega, HTB.out.1, HTB.out.2.1, ⟨HEE.out ▸ H16.out.mono (by omega) (by omega)⟩⟩, by simp; omega⟩
        · have HT := Aside0.mk hd4
          obtain ⟨E1, he1, he2, he3⟩ : ∃ E1, tickE t' (GE due t) = E1 ∧ tickE t' E1 = E1 ∧ (dueE (fndE ka (letE ka E1)) = 0 ∧ onE (fndE ka (letE ka E1)) = false ∧ letE ka E1 = F5) := by
            by_cases h9 : t < due
            · exact ⟨F4 due true, by unfold GE; rw [if_pos h9]; exact f_t4p t' due hd2 (by omega), f_tp t' due, f_dp due⟩
            · exact ⟨F5, by unfold GE; rw [if_neg h9]; exact f_t5 t', f_t5 t', f_d5⟩
          have HE1 := Aside0.mk he1
          have HE2 := Aside0.mk he2
          have HDU := Aside0.mk he3
          clear he1 he2 he3
          refine (t_tick n (by unfold maxLen; omega) t' HT1.out E1 HE1.out _ rfl HS.out ht0 (by unfold lst; omega)).mono ?_
          rintro e w9 ⟨rfl, S9, H9⟩
          have hnb := HNB.out.2
          have hna := HNB.out.1
          go_wp2_with fail
          clear hna hnb
          refine (t_tick (-n) (by unfold maxLen; omega) t' HT2.out E1 HE2.out _ rfl H9.out.st HTB.out.1 (by have := HTB.out; unfold lst; omega)).mono ?_
          rintro e w10 ⟨rfl, S10, H10⟩
          have hw : IntKind.i64.wrap (t + n) = t' := by have := HTB.out; rw [← ht']; rw [← ht'] at this; exact IntWalk.i64_in _ (by omega)
          have hnb := HNB.out.2
          have hna := HNB.out.1
          go_wp2_with fail
          clear hna hnb hw
          have HEE := Aside0.mk (show F5 = GE due t' by unfold GE; rw [if_neg (by have := HT.out; omega)])
          refine (t_due ka (by decide) 0 HDU.out.1 false HDU.out.2.1 F5 HDU.out.2.2 H10.out.st).mono ?_
          rintro e w11 ⟨rfl, S11, H11⟩
          have hlt := HT.out
          have hdt := show decide (t' < due) = false by simp; omega
          go_wp2_with fail
          refine (s_now H11.out.st).mono ?_
          rintro e w12 ⟨rfl, hw12⟩
          subst hw12
          go_wp2_with fail
          refine (t_get ka (by decide) noneV f_g5.1 F5 f_g5.2 H11.out.st).mono ?_
          rintro e w13 ⟨G2, G3, G4, p2, p3, p4, S13, rfl, _, _, H13⟩
          simp only [noneV]
          go_wp2_with fail
          refine (t_get kb (by decide) (txtV tx) f_b5.1 F5 f_b5.2 H13.out.st).mono ?_
          rintro e w14 ⟨G2', G3', G4', p2', p3', p4', S14, rfl, _, _, H14⟩
          simp only [txtV]
          go_wp2_with fail
          refine (t_keys [kb] f_k5 1 rfl (by decide) H14.out.st).mono ?_
          rintro e w15 ⟨B, k, rfl, _, _, H15, _⟩
          go_wp2_with fail
          refine (bit_any false 0 rfl w15).mono ?_
          rintro e w16 ⟨rfl, HB16⟩
          have H16 := Aside0.mk (H15.out.below HB16.out)
          go_wp2
          exact ⟨⟨i + 1, t', S14, _, rfl, by simp, by omega, by omega, HTB.out.1, HTB.out.2.1, ⟨HEE.out ▸ H16.out.mono (by omega) (by omega)⟩⟩, by simp; omega⟩
      · have hcs : ¬ ((i : Int) < l.length) ∨ ((i : Int) < l.length ∧ ¬ ((i : Int) < 20)) := by omega
        rcases hcs with hc9 | ⟨hc8, hc9⟩
        · go_wp2
          go_ret
          exact ⟨rfl, HS.out.below0⟩
        · go_wp2
          go_ret
          exact ⟨rfl, HS.out.below0⟩
end Go.Proofs.Ytmhdkjihhdljlaa.X
