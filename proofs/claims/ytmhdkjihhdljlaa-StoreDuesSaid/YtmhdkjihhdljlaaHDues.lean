/- StoreDues: its walk. -/
import Derived.Test.YtmhdkjihhdljlaaStFit
set_option linter.unusedVariables false
set_option linter.unusedSimpArgs false
namespace Go.Proofs.Ytmhdkjihhdljlaa.X
open Go.RowKit Go.Maps Go.ChangeMaps Go.MapKept Go.Proofs.Ytmhdkjihhdljlaa.Mv Go.Proofs.YtmhdkjihhdljlaaW.PrintWords Go.Proofs.YtmhdkjihhdljlaaW.PrintMore
attribute [local go_sem] fieldV0 fieldV1
def E2 (x : Vl) (p q : Int) : List Ent := [⟨ka, x, p, false⟩, ⟨kb, x, q, false⟩]
def E3 (x : Vl) (p q r : Int) : List Ent := [⟨ka, x, p, false⟩, ⟨kb, x, q, false⟩, ⟨kc, x, r, false⟩]
def E4 (x : Vl) (p : Int) : List Ent := [⟨ka, x, p, true⟩, ⟨kb, x, 0, false⟩, ⟨kc, x, 0, false⟩]
def E5 (x : Vl) : List Ent := [⟨kb, x, 0, false⟩, ⟨kc, x, 0, false⟩]
section
variable (x : Vl) (p q r a : Int)
theorem d_p1 (h : x.kind ≠ 0) : putE ka x [] = [⟨ka, x, 0, false⟩] := by simp [putE, letE, fndE, insE, h]
theorem d_p2 (h : x.kind ≠ 0) : putE kb x [⟨ka, x, 0, false⟩] = E2 x 0 0 := by simp [putE, letE, fndE, insE, h, E2, show ([97] : List UInt8) < [98] by decide]
theorem d_p3 (h : x.kind ≠ 0) : putE kc x (E2 x p q) = E3 x p q 0 := by simp [putE, letE, fndE, insE, h, E2, E3, show ([97] : List UInt8) < [99] by decide, show ([98] : List UInt8) < [99] by decide]
theorem d_pn : putE kc noneV (E3 x p q r) = E2 x p q := by simp [putE, letE, fndE, dropE, E2, E3, noneV]
theorem d_fa : (fndE ka (letE ka (E3 x p q r))) = some ⟨ka, x, p, false⟩ := by simp [letE, fndE, E3]
theorem d_fb : (fndE kb (letE kb (E3 x p q r))) = some ⟨kb, x, q, false⟩ := by simp [letE, fndE, E3]
theorem d_fc : (fndE kc (letE kc (E3 x p q r))) = some ⟨kc, x, r, false⟩ := by simp [letE, fndE, E3]
theorem d_va : valE (fndE ka (letE ka (E3 x p q r))) = x := by rw [d_fa]; rfl
theorem d_vb : valE (fndE kb (letE kb (E3 x p q r))) = x := by rw [d_fb]; rfl
theorem d_vc : valE (fndE kc (letE kc (E3 x p q r))) = x := by rw [d_fc]; rfl
theorem d_la (k : ByteArray) : letE k (E3 x p q r) = E3 x p q r := by simp [letE, E3]
theorem d_sa (h : 1 ≤ a ∧ a ≤ 1024) : setE ka 0 a true (E3 x p q r) = E3 x a q r := by
  unfold setE; rw [d_fa, d_la]; simp [updE, E3, show ¬ a ≤ 0 by omega]
theorem d_sb (h : 1 ≤ a ∧ a ≤ 1024) : setE kb 0 a true (E3 x p q r) = E3 x p a r := by
  unfold setE; rw [d_fb, d_la]; simp [updE, E3, show ¬ a ≤ 0 by omega]
theorem d_so : setE kb 0 a false (E3 x p q r) = E3 x p 0 r := by
  unfold setE; rw [d_fb, d_la]; simp [updE, E3]
theorem d_sc (h : 1 ≤ a ∧ a ≤ 1024) : setE kc 0 a true (E3 x p q r) = E3 x p q a := by
  unfold setE; rw [d_fc, d_la]; simp [updE, E3, show ¬ a ≤ 0 by omega]
theorem d_t1 (h : 1 ≤ p) (h2 : a < p) : tickE a (E3 x p 0 0) = E3 x p 0 0 := by
  simp [tickE, tick1, dueNow, E3]; omega
theorem d_t2 (h : 1 ≤ p) (h2 : p ≤ a) : tickE a (E3 x p 0 0) = E4 x p := by
  simp [tickE, tick1, dueNow, E3, E4]; omega
theorem d_4a : fndE ka (letE ka (E4 x p)) = none := by simp [letE, fndE, E4]
theorem d_l4 : letE ka (E4 x p) = E5 x := by simp [letE, E4, E5]
theorem d_5b : fndE kb (letE kb (E5 x)) = some ⟨kb, x, 0, false⟩ := by simp [letE, fndE, E5]
theorem d_5c : fndE kc (letE kc (E5 x)) = some ⟨kc, x, 0, false⟩ := by simp [letE, fndE, E5]
theorem d_w4 : valE (fndE ka (letE ka (E4 x p))) = noneV := by rw [d_4a]; rfl
theorem d_w5b : valE (fndE kb (letE kb (E5 x))) = x := by rw [d_5b]; rfl
theorem d_w5c : valE (fndE kc (letE kc (E5 x))) = x := by rw [d_5c]; rfl
theorem d_l5 (k : ByteArray) : letE k (E5 x) = E5 x := by simp [letE, E5]
end
set_option maxHeartbeats 4000000 in
set_option maxRecDepth 100000 in
theorem StoreDues_walk (y : Vl) (A2 A3 A4 : Option Addr) (n2 n3 n4 c2 c3 c4 : Nat) (d0 d1 n : Int) (w : World) (hv : VC w y A2 A3 A4 n2 n3 n4 c2 c3 c4) (h0 : 0 ≤ d0 ∧ d0 ≤ 65535) (h1 : 0 ≤ d1 ∧ d1 ≤ 65535) (hn : 0 ≤ n ∧ n ≤ 65535) :
    Calls Try.prog 3 #[.agg #[.int .u8 y.kind, .string y.s, .slice A2 n2 c2, .slice A3 n3 c3, .slice A4 n4 c4], .agg #[.int .u16 d0, .int .u16 d1], .int .u16 n] w fun e w' => e = .returned (.bool true) ∧ Below w.heap.size w w' := by
  have HV := Aside0.mk hv
  clear hv
  obtain ⟨x, hx⟩ : ∃ x, fitV y = x := ⟨_, rfl⟩
  have HX := Aside0.mk hx
  have HF := Aside0.mk (show VFit x by rw [← hx]; exact (fit_eq y).2)
  clear hx
  go_enter Try.func3, Try.ntmps3
  go_wp2_with fail
  obtain ⟨w1, hw1, HB1, HC1⟩ := named_alloc w #[.int .u8 y.kind, .string y.s, .slice A2 n2 c2, .slice A3 n3 c3, .slice A4 n4 c4] 26
  rw [hw1]
  have hs1 : w1.heap.size = w.heap.size + 1 := by rw [← hw1]; simp
  obtain ⟨w2, hw2, HB2, HC2⟩ := named_alloc w1 #[.int .u16 d0, .int .u16 d1] 28
  rw [hw2]
  obtain ⟨gv, hgv⟩ : ∃ q, w.heap.size = q := ⟨_, rfl⟩
  rw [hs1, hgv] at HC2
  rw [hgv] at HC1 hs1 ⊢
  have HW := Aside0.mk (And.intro hgv hs1)
  clear hw1 hw2 hgv hs1
  refine (shown_true w2).mono ?_
  rintro e w3 ⟨rfl, HB3⟩
  go_wp2_with fail
  refine (s_new HB3.out).mono ?_
  rintro e w4 ⟨g, me, mc, S4, rfl, H4, HN4, HB4⟩
  have HBB := Aside0.mk (H4.out.below0)
  have HV4 := Aside0.mk ((HV.out.below HB1.out).below (below_then HB2.out HB2.out.size HBB.out))
  have HC14 := Aside0.mk ((HBB.out.block gv (pwlt HC1.out |> fun h => Nat.lt_of_lt_of_le h HB2.out.size)).trans ((HB2.out.block gv (pwlt HC1.out)).trans HC1.out))
  obtain ⟨a0, a1, a2, a3, a4⟩ := cells5 HC14.out
  go_wp2_with fail
  refine (fit_any y x HX.out HV4.out).mono ?_
  rintro e w5 ⟨B2, B3, B4, m2, m3, m4, e2, e3, e4, rfl, HR5, HB5⟩
  clear a0 a1 a2 a3 a4
  have H5 := Aside0.mk (H4.out.below HB5.out)
  obtain ⟨w6, hw6, HB6, HC6⟩ := named_alloc w5 #[.int .u8 x.kind, .string x.s, .slice B2 m2 e2, .slice B3 m3 e3, .slice B4 m4 e4] 26
  have H6 := Aside0.mk (H5.out.below HB6.out)
  have HR6 := Aside0.mk (HR5.out.below HB6.out)
  have HNX := Aside0.mk (show ¬ S4 w5.heap.size from fun h => by have := (H5.out.in_ _ h).2; omega)
  obtain ⟨gx, hgx⟩ : ∃ q, w5.heap.size = q := ⟨_, rfl⟩
  rw [hgx] at HC6 HNX
  by_cases hk0 : x.kind = 0
  · have hk1 : (x.kind == 0) = true := by simpa using hk0
    obtain ⟨q0, q1, q2, q3, q4⟩ := cells5 HC6.out
    clear hk0
    go_wp2_with fail
    clear hk1 hw6 hgx q0 q1 q2 q3 q4
    refine (t_set ka (by decide) (by decide) 5 true false (by simp [letE, fndE]) [] (by simp [setE, letE, fndE]) _ rfl H6.out).mono ?_
    rintro e w7 ⟨rfl, S7, H7⟩
    go_wp2
    go_ret
    exact ⟨rfl, below_then HB1.out HB1.out.size (below_then HB2.out HB2.out.size H7.out.st.below0)⟩
  · have hk1 : (x.kind == 0) = false := by simpa using hk0
    obtain ⟨q0, q1, q2, q3, q4⟩ := cells5 HC6.out
    have HK := Aside0.mk hk0
    clear hk0
    have HBE := Aside0.mk H6.out.below0
    have b0 : w6.cell? ⟨gv + 1, 0, none⟩ = some (.int .u16 d0) := HBE.out.cell (pwlt HC2.out) |>.trans (by simp [World.cell?, HC2.out])
    have b1 : w6.cell? ⟨gv + 1, 1, none⟩ = some (.int .u16 d1) := HBE.out.cell (pwlt HC2.out) |>.trans (by simp [World.cell?, HC2.out])
    have k0 := h0.1
    have k1 := h0.2
    have k2 := h1.1
    have k3 := h1.2
    have k4 := hn.1
    have k5 := hn.2
    go_wp2_with fail
    obtain ⟨a, ha⟩ : ∃ a, 1 + d0 % 1024 = a := ⟨_, rfl⟩
    obtain ⟨b, hb⟩ : ∃ b, 1 + d1 % 1024 = b := ⟨_, rfl⟩
    obtain ⟨by_, hby⟩ : ∃ b, n % 1025 = b := ⟨_, rfl⟩
    have HA := Aside0.mk (show 1 ≤ a ∧ a ≤ 1024 by omega)
    have HB := Aside0.mk (show 1 ≤ b ∧ b ≤ 1024 by omega)
    have HBY := Aside0.mk (show 0 ≤ by_ ∧ by_ ≤ 1024 by omega)
    rw [ha, hb, hby]
    have HK0 := Aside0.mk hk1
    clear ha hb hby hk1 b0 b1 k0 k1 k2 k3 k4 k5 hw6 hgx q0 q1 q2 q3 q4
    refine (v_put ka (by decide) (by decide) (by decide) x HF.out.vok HK.out ([⟨ka, x, 0, false⟩]) (d_p1 x HK.out) _ rfl HR6.out.vc H6.out).mono ?_
    rintro e w8 ⟨rfl, S7, H7⟩
    obtain ⟨hc7, hn7⟩ := H7.out.keep HC6.out HNX.out
    have HC7 := Aside0.mk hc7
    have HN7 := Aside0.mk hn7
    have HR7 := Aside0.mk (HR6.out.post H7.out H6.out)
    obtain ⟨q0, q1, q2, q3, q4⟩ := cells5 hc7
    clear hc7 hn7
    go_wp2_with fail
    clear q0 q1 q2 q3 q4
    refine (v_put kb (by decide) (by decide) (by decide) x HF.out.vok HK.out (E2 x 0 0) (d_p2 x HK.out) _ rfl HR7.out.vc H7.out.st).mono ?_
    rintro e w9 ⟨rfl, S8, H8⟩
    obtain ⟨hc8, hn8⟩ := H8.out.keep HC7.out HN7.out
    have HC8 := Aside0.mk hc8
    have HN8 := Aside0.mk hn8
    have HR8 := Aside0.mk (HR7.out.post H8.out H7.out.st)
    obtain ⟨q0, q1, q2, q3, q4⟩ := cells5 hc8
    clear hc8 hn8
    go_wp2_with fail
    clear q0 q1 q2 q3 q4
    refine (v_put kc (by decide) (by decide) (by decide) x HF.out.vok HK.out (E3 x 0 0 0) (d_p3 x 0 0 HK.out) _ rfl HR8.out.vc H8.out.st).mono ?_
    rintro e w10 ⟨rfl, S9, H9⟩
    obtain ⟨hc9, hn9⟩ := H9.out.keep HC8.out HN8.out
    have HC9 := Aside0.mk hc9
    have HN9 := Aside0.mk hn9
    have HR9 := Aside0.mk (HR8.out.post H9.out H8.out.st)
    obtain ⟨q0, q1, q2, q3, q4⟩ := cells5 hc9
    clear hc9 hn9
    go_wp2_with fail
    clear q0 q1 q2 q3 q4
    refine (t_set ka (by decide) (by decide) a true true (by rw [d_fa]; rfl) (E3 x a 0 0) (d_sa x 0 0 0 a HA.out) _ rfl H9.out.st).mono ?_
    rintro e w11 ⟨rfl, S10, H10⟩
    obtain ⟨hc10, hn10⟩ := H10.out.keep HC9.out HN9.out
    have HC10 := Aside0.mk hc10
    have HN10 := Aside0.mk hn10
    have HR10 := Aside0.mk (HR9.out.post H10.out H9.out.st)
    obtain ⟨q0, q1, q2, q3, q4⟩ := cells5 hc10
    clear hc10 hn10
    go_wp2_with fail
    clear q0 q1 q2 q3 q4
    refine (t_set ka (by decide) (by decide) b true true (by rw [d_fa]; rfl) (E3 x b 0 0) (d_sa x a 0 0 b HB.out) _ rfl H10.out.st).mono ?_
    rintro e w12 ⟨rfl, S11, H11⟩
    obtain ⟨hc11, hn11⟩ := H11.out.keep HC10.out HN10.out
    have HC11 := Aside0.mk hc11
    have HN11 := Aside0.mk hn11
    have HR11 := Aside0.mk (HR10.out.post H11.out H10.out.st)
    obtain ⟨q0, q1, q2, q3, q4⟩ := cells5 hc11
    clear hc11 hn11
    go_wp2_with fail
    clear q0 q1 q2 q3 q4
    refine (t_set kb (by decide) (by decide) a true true (by rw [d_fb]; rfl) (E3 x b a 0) (d_sb x b 0 0 a HA.out) _ rfl H11.out.st).mono ?_
    rintro e w13 ⟨rfl, S12, H12⟩
    obtain ⟨hc12, hn12⟩ := H12.out.keep HC11.out HN11.out
    have HC12 := Aside0.mk hc12
    have HN12 := Aside0.mk hn12
    have HR12 := Aside0.mk (HR11.out.post H12.out H11.out.st)
    obtain ⟨q0, q1, q2, q3, q4⟩ := cells5 hc12
    clear hc12 hn12
    go_wp2_with fail
    clear q0 q1 q2 q3 q4
    refine (t_set kb (by decide) (by decide) a false true (by rw [d_fb]; rfl) (E3 x b 0 0) (d_so x b a 0 a) _ rfl H12.out.st).mono ?_
    rintro e w14 ⟨rfl, S13, H13⟩
    obtain ⟨hc13, hn13⟩ := H13.out.keep HC12.out HN12.out
    have HC13 := Aside0.mk hc13
    have HN13 := Aside0.mk hn13
    have HR13 := Aside0.mk (HR12.out.post H13.out H12.out.st)
    obtain ⟨q0, q1, q2, q3, q4⟩ := cells5 hc13
    clear hc13 hn13
    go_wp2_with fail
    clear q0 q1 q2 q3 q4
    refine (t_set kc (by decide) (by decide) a true true (by rw [d_fc]; rfl) (E3 x b 0 a) (d_sc x b 0 0 a HA.out) _ rfl H13.out.st).mono ?_
    rintro e w15 ⟨rfl, S14, H14⟩
    obtain ⟨hc14, hn14⟩ := H14.out.keep HC13.out HN13.out
    have HC14 := Aside0.mk hc14
    have HN14 := Aside0.mk hn14
    have HR14 := Aside0.mk (HR13.out.post H14.out H13.out.st)
    obtain ⟨q0, q1, q2, q3, q4⟩ := cells5 hc14
    clear hc14 hn14
    go_wp2_with fail
    clear q0 q1 q2 q3 q4
    refine (t_putn kc (by decide) (by decide) noneV rfl (E2 x b 0) (d_pn x b 0 a) _ rfl _ _ _ _ _ _ _ _ _ _ H14.out.st).mono ?_
    rintro e w16 ⟨rfl, S15, H15⟩
    obtain ⟨hc15, hn15⟩ := H15.out.keep HC14.out HN14.out
    have HC15 := Aside0.mk hc15
    have HN15 := Aside0.mk hn15
    have HR15 := Aside0.mk (HR14.out.post H15.out H14.out.st)
    obtain ⟨q0, q1, q2, q3, q4⟩ := cells5 hc15
    clear hc15 hn15
    go_wp2_with fail
    clear q0 q1 q2 q3 q4
    refine (v_put kc (by decide) (by decide) (by decide) x HF.out.vok HK.out (E3 x b 0 0) (d_p3 x b 0 HK.out) _ rfl HR15.out.vc H15.out.st).mono ?_
    rintro e w17 ⟨rfl, S16, H16⟩
    obtain ⟨hc16, hn16⟩ := H16.out.keep HC15.out HN15.out
    have HC16 := Aside0.mk hc16
    have HN16 := Aside0.mk hn16
    have HR16 := Aside0.mk (HR15.out.post H16.out H15.out.st)
    obtain ⟨q0, q1, q2, q3, q4⟩ := cells5 hc16
    clear hc16 hn16
    go_wp2_with fail
    clear q0 q1 q2 q3 q4
    refine (t_due ka (by decide) b (by rw [d_fa]; simp [dueE]; have := HB.out; omega) true (by rw [d_fa]; simp [onE]; have := HB.out; omega) (E3 x b 0 0) (d_la x b 0 0 ka) H16.out.st).mono ?_
    rintro e w18 ⟨rfl, S17, H17⟩
    obtain ⟨hc17, hn17⟩ := H17.out.keep HC16.out HN16.out
    have HC17 := Aside0.mk hc17
    have HN17 := Aside0.mk hn17
    obtain ⟨q0, q1, q2, q3, q4⟩ := cells5 hc17
    clear hc17 hn17
    go_wp2_with fail
    clear q0 q1 q2 q3 q4
    refine (t_due kb (by decide) 0 (by rw [d_fb]; simp [dueE]) false (by rw [d_fb]; simp [onE]) (E3 x b 0 0) (d_la x b 0 0 kb) H17.out.st).mono ?_
    rintro e w19 ⟨rfl, S18, H18⟩
    obtain ⟨hc18, hn18⟩ := H18.out.keep HC17.out HN17.out
    have HC18 := Aside0.mk hc18
    have HN18 := Aside0.mk hn18
    obtain ⟨q0, q1, q2, q3, q4⟩ := cells5 hc18
    clear hc18 hn18
    go_wp2_with fail
    clear q0 q1 q2 q3 q4
    refine (t_due kc (by decide) 0 (by rw [d_fc]; simp [dueE]) false (by rw [d_fc]; simp [onE]) (E3 x b 0 0) (d_la x b 0 0 kc) H18.out.st).mono ?_
    rintro e w20 ⟨rfl, S19, H19⟩
    obtain ⟨hc19, hn19⟩ := H19.out.keep HC18.out HN18.out
    have HC19 := Aside0.mk hc19
    have HN19 := Aside0.mk hn19
    obtain ⟨q0, q1, q2, q3, q4⟩ := cells5 hc19
    clear hc19 hn19
    go_wp2_with fail
    clear q0 q1 q2 q3 q4
    have HT := Aside0.mk (show timeU 0 by_ = by_ by have := HBY.out; unfold timeU lst; omega)
    by_cases hle : b ≤ by_
    · have HLT := Aside0.mk hle
      clear hle
      refine (t_tick by_ (by decide) by_ HT.out (E4 x b) (d_t2 x b by_ HB.out.1 HLT.out) _ rfl H19.out.st (by decide) (by decide)).mono ?_
      rintro e w21 ⟨rfl, S20, H20⟩
      obtain ⟨hc20, hn20⟩ := H20.out.keep HC19.out HN19.out
      have HC20 := Aside0.mk hc20
      have HN20 := Aside0.mk hn20
      obtain ⟨q0, q1, q2, q3, q4⟩ := cells5 hc20
      clear hc20 hn20
      clear q1 q2 q3 q4
      have hlt := HLT.out
      have hge : decide (b ≤ by_) = true := by simp; omega
      have hge2 : decide (by_ ≥ b) = true := by simp; omega
      have hbb : (b == b) = true := by simp
      have hk1 := HK0.out
      have H20d := Aside0.mk (H20.out.st.below (w1 := w21.drew) ⟨rfl, rfl, rfl, Nat.le_refl _, fun _ _ => rfl⟩)
      go_wp2_with fail
      go_region_held3 (fun wz => wz.cell? ⟨gx, 0, none⟩ = some (.int .u8 x.kind)) (first | exact q0 | exact y1 | exact y2 | exact y3) (first
        | (go_at_call 16
           (with_reducible refine (v_get ka (by decide) noneV (d_w4 x b) (E5 x) (d_l4 x b) H20d.out).mono ?_)
           rintro e w22 ⟨G2, G3, G4, p2, p3, p4, f2, f3, f4, S21, rfl, _, H21⟩
           have y1 := H21.out.kp.cell (show w21.drew.cell? ⟨gx, 0, none⟩ = _ from q0) HN20.out
           have HK21 := Aside0.mk (H21.out.keep (show w21.drew.heap[gx]? = _ from HC20.out) HN20.out))
        | (go_at_call 16
           (with_reducible refine (v_get kb (by decide) x (d_w5b x) (E5 x) (d_l5 x kb) H21.out.st).mono ?_)
           rintro e w23 ⟨G2', G3', G4', p2', p3', p4', f2', f3', f4', S22, rfl, _, H22⟩
           have y2 := H22.out.kp.cell y1 HK21.out.2
           have HK22 := Aside0.mk (H22.out.keep HK21.out.1 HK21.out.2))
        | (go_at_call 16
           (with_reducible refine (v_get kc (by decide) x (d_w5c x) (E5 x) (d_l5 x kc) H22.out.st).mono ?_)
           rintro e w24 ⟨G2'', G3'', G4'', p2'', p3'', p4'', f2'', f3'', f4'', S23, rfl, _, H23⟩
           have y3 := H23.out.kp.cell y2 HK22.out.2))
      go_wp2
      go_ret
      exact ⟨rfl, below_then HB1.out HB1.out.size (below_then HB2.out HB2.out.size H23.out.st.below0)⟩
    · have HLT := Aside0.mk (show by_ < b by omega)
      clear hle
      refine (t_tick by_ (by decide) by_ HT.out (E3 x b 0 0) (d_t1 x b by_ HB.out.1 HLT.out) _ rfl H19.out.st (by decide) (by decide)).mono ?_
      rintro e w21 ⟨rfl, S20, H20⟩
      obtain ⟨hc20, hn20⟩ := H20.out.keep HC19.out HN19.out
      have HC20 := Aside0.mk hc20
      have HN20 := Aside0.mk hn20
      obtain ⟨q0, q1, q2, q3, q4⟩ := cells5 hc20
      clear hc20 hn20
      clear q1 q2 q3 q4
      have hlt := HLT.out
      have hge : decide (b ≤ by_) = false := by simp; omega
      have hge2 : decide (by_ ≥ b) = false := by simp; omega
      have hbb : (b == b) = true := by simp
      have hk1 := HK0.out
      have H20d := Aside0.mk (H20.out.st.below (w1 := w21.drew) ⟨rfl, rfl, rfl, Nat.le_refl _, fun _ _ => rfl⟩)
      go_wp2_with fail
      go_region_held3 (fun wz => wz.cell? ⟨gx, 0, none⟩ = some (.int .u8 x.kind)) (first | exact q0 | exact y1 | exact y2 | exact y3) (first
        | (go_at_call 16
           (with_reducible refine (v_get ka (by decide) x (d_va x b 0 0) (E3 x b 0 0) (d_la x b 0 0 ka) H20d.out).mono ?_)
           rintro e w22 ⟨G2, G3, G4, p2, p3, p4, f2, f3, f4, S21, rfl, _, H21⟩
           have y1 := H21.out.kp.cell (show w21.drew.cell? ⟨gx, 0, none⟩ = _ from q0) HN20.out
           have HK21 := Aside0.mk (H21.out.keep (show w21.drew.heap[gx]? = _ from HC20.out) HN20.out))
        | (go_at_call 16
           (with_reducible refine (v_get kb (by decide) x (d_vb x b 0 0) (E3 x b 0 0) (d_la x b 0 0 kb) H21.out.st).mono ?_)
           rintro e w23 ⟨G2', G3', G4', p2', p3', p4', f2', f3', f4', S22, rfl, _, H22⟩
           have y2 := H22.out.kp.cell y1 HK21.out.2
           have HK22 := Aside0.mk (H22.out.keep HK21.out.1 HK21.out.2))
        | (go_at_call 16
           (with_reducible refine (v_get kc (by decide) x (d_vc x b 0 0) (E3 x b 0 0) (d_la x b 0 0 kc) H22.out.st).mono ?_)
           rintro e w24 ⟨G2'', G3'', G4'', p2'', p3'', p4'', f2'', f3'', f4'', S23, rfl, _, H23⟩
           have y3 := H23.out.kp.cell y2 HK22.out.2))
      go_wp2
      go_ret
      exact ⟨rfl, below_then HB1.out HB1.out.size (below_then HB2.out HB2.out.size H23.out.st.below0)⟩
end Go.Proofs.Ytmhdkjihhdljlaa.X
