/- StoreHeld: its walk. -/
import Derived.Test.YtmhdkjihhdljlaaStTwo
import Derived.IntWalk
import Derived.Deep.DeepCutAuto
import Derived.Deep.CutRange
set_option linter.unusedVariables false
set_option linter.unusedSimpArgs false
namespace Go.Proofs.Ytmhdkjihhdljlaa.X
open Go.RowKit Go.Maps Go.ChangeMaps Go.MapKept Go.Proofs.Ytmhdkjihhdljlaa.Mv Go.Proofs.YtmhdkjihhdljlaaW.PrintWords Go.Proofs.YtmhdkjihhdljlaaW.PrintMore
attribute [local go_sem] fieldV0 fieldV1
/-- Behind a thing that was done: both hold the same, but for what is past. -/
def HAll (w0 wx : World) (g me mc g2 me2 mc2 n nc : Nat) : Prop := ∃ (S T : Nat → Prop) (now : Int) (E E2 : List Ent) (C : ByteArray → Int), Two w0 wx S T g me mc n nc now E C g2 me2 mc2 n nc now E2 C ∧ purgeE E = purgeE E2 ∧ 0 ≤ now ∧ now ≤ lst
set_option maxHeartbeats 4000000 in
set_option maxRecDepth 100000 in
theorem StoreHeld_walk (A1 : Option Addr) (l : List Op10) (c1 : Nat) (w : World) (hl : kOp.C w A1 l.length l) (hc : l.length ≤ c1) (hok : ∀ o ∈ l, OpOk o) :
    Calls Try.prog 8 #[.slice A1 l.length c1] w fun e w' => e = .returned (.bool true) ∧ Below w.heap.size w w' := by
  have HL := Aside0.mk hl
  have HOK := Aside0.mk hok
  have HC := Aside0.mk hc
  clear hl hok hc
  go_enter Try.func8, Try.ntmps8
  go_wp2_with fail
  refine (shown_true w).mono ?_
  rintro e w3 ⟨rfl, HB3⟩
  go_wp2_with fail
  refine (s_new HB3.out).mono ?_
  rintro e w4 ⟨g, me, mc, S4, rfl, H4, HN4, HB4⟩
  go_wp2_with fail
  refine (s_new H4.out.below0).mono ?_
  rintro e w5 ⟨g2, me2, mc2, T5, rfl, H5, HN5, HB5⟩
  have HA5 := Aside0.mk (show HAll w w5 g me mc g2 me2 mc2 0 0 from ⟨S4, T5, 0, [], [], fun _ => 0, ⟨H4.out.below HB5.out, H5.out, fun i hi ht => by have := (H4.out.in_ i hi).2; have := HN5.out i ht; omega⟩, rfl, by omega, by decide⟩)
  clear H4 H5 HN4 HN5 HB3 HB4 HB5
  go_wp2
  go_loopw [6] (fun v6 wr => ∃ i : Nat, v6 = .int .i64 i ∧ i ≤ 40 ∧ i ≤ l.length ∧ Aside0 (HAll w wr g me mc g2 me2 mc2 i (50 * i))) (fun v6 _ => 40 - (match v6 with | .int _ i => i.toNat | _ => 0))
  case atStart => exact ⟨0, rfl, by omega, by omega, HA5⟩
  case round =>
    clear HA5
    obtain ⟨i, rfl, hi, hil, HA⟩ := hrel
    obtain ⟨S, T, now, E, E2, C, htwo, hrel, ht0, ht1⟩ := HA.out
    have HT := Aside0.mk htwo
    have HR := Aside0.mk hrel
    clear HA htwo hrel
    by_cases hlt : i < l.length ∧ i < 40
    · obtain ⟨hl1, hl2⟩ := hlt
      have hI1 : (i : Int) < l.length := by omega
      have hI2 : (i : Int) < 40 := by omega
      obtain ⟨ad, p, D2, D3, D4, o2, o3, o4, f2, f3, f4, e0, hp, hvo, k0, k1, k2, k3, k4, k5, k6, k7, k8⟩ := op_cells2 HL.out HT.out.s.below0 hl1
      subst e0
      have hon := HOK.out _ (List.getElem_mem hl1)
      rw [show l[i] = l.getD i op0 by rw [List.getD_eq_getElem?_getD, List.getElem?_eq_getElem hl1]; rfl] at hon
      obtain ⟨o, ho⟩ : ∃ o, l.getD i op0 = o := ⟨_, rfl⟩
      rw [ho] at hvo k0 k1 k2 k3 k7 k8 hon
      obtain ⟨ok_, okey, ov, on_, oon⟩ := o
      simp only at hvo k0 k1 k2 k3 k7 k8
      have hk0 := hon.kind.1
      have hk1 := hon.kind.2
      simp only at hk0 hk1
      have HVO := Aside0.mk hvo
      clear ho hon hvo
      go_wp2_with fail
      obtain ⟨w10, hw10, HB10, HC10⟩ := named_alloc wr #[.int .u8 ok_, .string okey, .int .u8 ov.kind, .string ov.s, .slice D2 o2 f2, .slice D3 o3 f3, .slice D4 o4 f4, .int .i64 on_, .bool oon] 42
      have HT10 := Aside0.mk (HT.out.below HB10.out)
      obtain ⟨go, hgo⟩ : ∃ q, wr.heap.size = q := ⟨_, rfl⟩
      have HNO := Aside0.mk (show ¬ S go ∧ ¬ T go from ⟨fun h => by have := (HT.out.s.in_ _ h).2; omega, fun h => by have := (HT.out.t.in_ _ h).2; omega⟩)
      rw [hgo] at HC10
      rw [hw10, hgo]
      clear hw10 hgo k0 k1 k2 k3 k4 k5 k6 k7 k8 HT hp
      obtain ⟨k, hk⟩ : ∃ k, keyB okey = k := ⟨_, rfl⟩
      have HKS := Aside0.mk (show k.size ≤ maxLen by rw [← hk]; exact keyB_size okey)
      refine (key_any okey k hk w10).mono ?_
      clear hk
      rintro e w11 ⟨rfl, HB11⟩
      have HT11 := Aside0.mk (HT10.out.below HB11.out)
      have HCO := Aside0.mk ((HB11.out.block go (pwlt HC10.out)).trans HC10.out)
      obtain ⟨r0, r1, r2, r3, r4, r5, r6, r7, r8⟩ := cells9 HCO.out
      go_upto_block 2 with (fail)
      clear HB10 HB11 HT10 HC10
      have HNC := Aside0.mk (show 50 * i < maxLen by unfold maxLen; omega)
      have HN := Aside0.mk (show i < maxLen by unfold maxLen; omega)
      go_cut [2, 48, 61, 78, 88] (fun _ _ _ _ _ wx => HAll w wx g me mc g2 me2 mc2 (i + 1) (50 * i + 50))
      case first =>
        have hk8 : ok_ % 8 = 0 ∨ ok_ % 8 = 1 ∨ ok_ % 8 = 2 ∨ ok_ % 8 = 3 ∨ ok_ % 8 = 4 ∨ ok_ % 8 = 5 ∨ ok_ % 8 = 6 ∨ ok_ % 8 = 7 := by omega
        rcases hk8 with hk | hk | hk | hk | hk | hk | hk | hk
        · go_wp2_with fail
          obtain ⟨z, hz⟩ : ∃ z, fitV ov = z := ⟨_, rfl⟩
          have HZ := Aside0.mk hz
          have HFO := Aside0.mk (show VFit z by rw [← hz]; exact (fit_eq ov).2)
          clear hz
          refine (fit_any ov z HZ.out (HVO.out.below HT11.out.s.below0)).mono ?_
          rintro e w12 ⟨Z2, Z3, Z4, y2, y3, y4, z2, z3, z4, rfl, HR12, HB12⟩
          have HT12 := Aside0.mk (HT11.out.below HB12.out)
          have HCO12 := Aside0.mk ((HB12.out.block go (pwlt HCO.out)).trans HCO.out)
          clear r0 r1 r2 r3 r4 r5 r6 r7 r8
          go_wp2_with fail
          refine (g_put k HKS.out HN.out HNC.out z HFO.out _ rfl _ rfl HR12.out.vc HT12.out.s).mono ?_
          rintro e w13 ⟨rfl, S13, H13⟩
          have HT13 := Aside0.mk (HT12.out.left H13.out)
          have HCO13 := Aside0.mk (H13.out.keep HCO12.out HNO.out.1)
          obtain ⟨r0, r1, r2, r3, r4, r5, r6, r7, r8⟩ := cells9 HCO13.out.1
          go_wp2_with fail
          refine (fit_any ov z HZ.out (HVO.out.below HT13.out.s.below0)).mono ?_
          rintro e w14 ⟨X2, X3, X4, v2, v3, v4, u2', u3', u4', rfl, HR14, HB14⟩
          have HT14 := Aside0.mk (HT13.out.below HB14.out)
          clear r0 r1 r2 r3 r4 r5 r6 r7 r8
          go_wp2_with fail
          refine (g_put k HKS.out HN.out HNC.out z HFO.out _ rfl _ rfl HR14.out.vc HT14.out.t).mono ?_
          rintro e w15 ⟨rfl, T15, H15⟩
          have HT15 := Aside0.mk (HT14.out.right H15.out)
          go_wp2_with fail
          go_meet
          exact ⟨_, _, now, _, _, _, ⟨HT15.out.s.mono (by omega) (by omega), (putC_same (C := C) z HR.out) ▸ HT15.out.t.mono (by omega) (by omega), HT15.out.d⟩, purge_put z HR.out, ht0, ht1⟩
        · go_wp2_with fail
          obtain ⟨z, hz⟩ : ∃ z, fitV ov = z := ⟨_, rfl⟩
          have HZ := Aside0.mk hz
          have HFO := Aside0.mk (show VFit z by rw [← hz]; exact (fit_eq ov).2)
          clear hz
          refine (fit_any ov z HZ.out (HVO.out.below HT11.out.s.below0)).mono ?_
          rintro e w12 ⟨Z2, Z3, Z4, y2, y3, y4, z2, z3, z4, rfl, HR12, HB12⟩
          have HT12 := Aside0.mk (HT11.out.below HB12.out)
          have HCO12 := Aside0.mk ((HB12.out.block go (pwlt HCO.out)).trans HCO.out)
          clear r0 r1 r2 r3 r4 r5 r6 r7 r8
          go_wp2_with fail
          refine (g_put k HKS.out HN.out HNC.out z HFO.out _ rfl _ rfl HR12.out.vc HT12.out.s).mono ?_
          rintro e w13 ⟨rfl, S13, H13⟩
          have HT13 := Aside0.mk (HT12.out.left H13.out)
          have HCO13 := Aside0.mk (H13.out.keep HCO12.out HNO.out.1)
          obtain ⟨r0, r1, r2, r3, r4, r5, r6, r7, r8⟩ := cells9 HCO13.out.1
          go_wp2_with fail
          refine (fit_any ov z HZ.out (HVO.out.below HT13.out.s.below0)).mono ?_
          rintro e w14 ⟨X2, X3, X4, v2, v3, v4, u2', u3', u4', rfl, HR14, HB14⟩
          have HT14 := Aside0.mk (HT13.out.below HB14.out)
          clear r0 r1 r2 r3 r4 r5 r6 r7 r8
          go_wp2_with fail
          refine (g_put k HKS.out HN.out HNC.out z HFO.out _ rfl _ rfl HR14.out.vc HT14.out.t).mono ?_
          rintro e w15 ⟨rfl, T15, H15⟩
          have HT15 := Aside0.mk (HT14.out.right H15.out)
          go_wp2_with fail
          go_meet
          exact ⟨_, _, now, _, _, _, ⟨HT15.out.s.mono (by omega) (by omega), (putC_same (C := C) z HR.out) ▸ HT15.out.t.mono (by omega) (by omega), HT15.out.d⟩, purge_put z HR.out, ht0, ht1⟩
        · go_wp2_with fail
          obtain ⟨z, hz⟩ : ∃ z, fitV ov = z := ⟨_, rfl⟩
          have HZ := Aside0.mk hz
          have HFO := Aside0.mk (show VFit z by rw [← hz]; exact (fit_eq ov).2)
          clear hz
          refine (fit_any ov z HZ.out (HVO.out.below HT11.out.s.below0)).mono ?_
          rintro e w12 ⟨Z2, Z3, Z4, y2, y3, y4, z2, z3, z4, rfl, HR12, HB12⟩
          have HT12 := Aside0.mk (HT11.out.below HB12.out)
          have HCO12 := Aside0.mk ((HB12.out.block go (pwlt HCO.out)).trans HCO.out)
          clear r0 r1 r2 r3 r4 r5 r6 r7 r8
          go_wp2_with fail
          refine (g_put k HKS.out HN.out HNC.out z HFO.out _ rfl _ rfl HR12.out.vc HT12.out.s).mono ?_
          rintro e w13 ⟨rfl, S13, H13⟩
          have HT13 := Aside0.mk (HT12.out.left H13.out)
          have HCO13 := Aside0.mk (H13.out.keep HCO12.out HNO.out.1)
          obtain ⟨r0, r1, r2, r3, r4, r5, r6, r7, r8⟩ := cells9 HCO13.out.1
          go_wp2_with fail
          refine (fit_any ov z HZ.out (HVO.out.below HT13.out.s.below0)).mono ?_
          rintro e w14 ⟨X2, X3, X4, v2, v3, v4, u2', u3', u4', rfl, HR14, HB14⟩
          have HT14 := Aside0.mk (HT13.out.below HB14.out)
          clear r0 r1 r2 r3 r4 r5 r6 r7 r8
          go_wp2_with fail
          refine (g_put k HKS.out HN.out HNC.out z HFO.out _ rfl _ rfl HR14.out.vc HT14.out.t).mono ?_
          rintro e w15 ⟨rfl, T15, H15⟩
          have HT15 := Aside0.mk (HT14.out.right H15.out)
          go_wp2_with fail
          go_meet
          exact ⟨_, _, now, _, _, _, ⟨HT15.out.s.mono (by omega) (by omega), (putC_same (C := C) z HR.out) ▸ HT15.out.t.mono (by omega) (by omega), HT15.out.d⟩, purge_put z HR.out, ht0, ht1⟩
        · go_wp2_with fail
          have HT12 := Aside0.mk HT11.out.drew
          obtain ⟨rb, hrb⟩ : ∃ rb, (fndE k (letE k E)).isSome = rb := ⟨_, rfl⟩
          have HRB := Aside0.mk hrb
          have HRB2 := Aside0.mk (show (fndE k (letE k E2)).isSome = rb by rw [← fl_same HR.out]; exact hrb)
          clear hrb
          go_region_held3 (fun wz => wz.cell? ⟨go, 7, none⟩ = some (.int .i64 on_) ∧ wz.cell? ⟨go, 8, none⟩ = some (.bool oon)) (first | exact ⟨r7, r8⟩ | exact HY1.out | exact HY2.out) (first
            | (go_at_call 12
               (with_reducible refine (t_set (g := g) k HKS.out HNC.out on_ oon rb HRB.out _ rfl _ rfl HT12.out.s).mono ?_)
               rintro e w12 ⟨rfl, S12, H12⟩
               have HT13 := Aside0.mk (HT12.out.left H12.out)
               have HCO12 := Aside0.mk (H12.out.keep (show w11.drew.heap[go]? = _ from HCO.out) HNO.out.1)
               have HY1 := Aside0.mk (show _ ∧ _ from ⟨(cells9 HCO12.out.1).2.2.2.2.2.2.2.1, (cells9 HCO12.out.1).2.2.2.2.2.2.2.2⟩))
            | (go_at_call 12
               (with_reducible refine (t_set (g := g2) k HKS.out HNC.out on_ oon rb HRB2.out _ rfl _ rfl HT13.out.t).mono ?_)
               rintro e w13 ⟨rfl, T13, H13⟩
               have HT14 := Aside0.mk (HT13.out.right H13.out)
               have HCO13 := Aside0.mk (H13.out.keep HCO12.out.1 HNO.out.2)
               have HY2 := Aside0.mk (show _ ∧ _ from ⟨(cells9 HCO13.out.1).2.2.2.2.2.2.2.1, (cells9 HCO13.out.1).2.2.2.2.2.2.2.2⟩)))
          have hbb : (rb != rb) = false := by cases rb <;> rfl
          go_wp2_with fail
          go_meet
          exact ⟨_, _, now, _, _, _, ⟨HT14.out.s.mono (by omega) (by omega), (setC_same (C := C) HR.out) ▸ HT14.out.t.mono (by omega) (by omega), HT14.out.d⟩, purge_set now on_ oon HR.out, ht0, ht1⟩
        · go_wp2_with fail
          refine (t_tick on_ (by unfold maxLen; omega) _ rfl _ rfl _ rfl HT11.out.s ht0 ht1).mono ?_
          rintro e w12 ⟨rfl, S12, H12⟩
          have HT13 := Aside0.mk (HT11.out.left H12.out)
          have HCO12 := Aside0.mk (H12.out.keep HCO.out HNO.out.1)
          clear r0 r1 r2 r3 r4 r5 r6 r7 r8
          obtain ⟨r0, r1, r2, r3, r4, r5, r6, r7, r8⟩ := cells9 HCO12.out.1
          go_wp2_with fail
          refine (t_tick on_ (by unfold maxLen; omega) _ rfl _ rfl _ rfl HT13.out.t ht0 ht1).mono ?_
          rintro e w13 ⟨rfl, T13, H13⟩
          have HT14 := Aside0.mk (HT13.out.right H13.out)
          go_wp2_with fail
          go_meet
          exact ⟨_, _, _, _, _, _, ⟨HT14.out.s.mono (by omega) (by omega), (tickC_same (C := C) (timeU now on_) HR.out HT11.out.s.uniq HT11.out.t.uniq) ▸ HT14.out.t.mono (by omega) (by omega), HT14.out.d⟩, purge_tick _ HR.out, (timeU_bd ht0).1, (timeU_bd ht0).2⟩
        · go_wp2_with fail
          refine (t_putn k HKS.out HNC.out noneV rfl _ rfl _ rfl _ _ _ _ _ _ _ _ _ _ HT11.out.s).mono ?_
          rintro e w12 ⟨rfl, S12, H12⟩
          have HT13 := Aside0.mk (HT11.out.left H12.out)
          clear r0 r1 r2 r3 r4 r5 r6 r7 r8
          go_wp2_with fail
          refine (t_putn k HKS.out HNC.out noneV rfl _ rfl _ rfl _ _ _ _ _ _ _ _ _ _ HT13.out.t).mono ?_
          rintro e w13 ⟨rfl, T13, H13⟩
          have HT14 := Aside0.mk (HT13.out.right H13.out)
          go_wp2_with fail
          go_meet
          exact ⟨_, _, now, _, _, _, ⟨HT14.out.s.mono (by omega) (by omega), (putC_same (C := C) noneV HR.out) ▸ HT14.out.t.mono (by omega) (by omega), HT14.out.d⟩, purge_put noneV HR.out, ht0, ht1⟩
        · go_wp2_with fail
          obtain ⟨z, hz⟩ : ∃ z, fitV ov = z := ⟨_, rfl⟩
          have HZ := Aside0.mk hz
          have HFO := Aside0.mk (show VFit z by rw [← hz]; exact (fit_eq ov).2)
          clear hz
          refine (fit_any ov z HZ.out (HVO.out.below HT11.out.s.below0)).mono ?_
          rintro e w12 ⟨Z2, Z3, Z4, y2, y3, y4, z2, z3, z4, rfl, HR12, HB12⟩
          have HT12 := Aside0.mk (HT11.out.below HB12.out)
          have HCO12 := Aside0.mk ((HB12.out.block go (pwlt HCO.out)).trans HCO.out)
          clear r0 r1 r2 r3 r4 r5 r6 r7 r8
          go_wp2_with fail
          refine (g_put k HKS.out HN.out HNC.out z HFO.out _ rfl _ rfl HR12.out.vc HT12.out.s).mono ?_
          rintro e w13 ⟨rfl, S13, H13⟩
          have HT13 := Aside0.mk (HT12.out.left H13.out)
          have HCO13 := Aside0.mk (H13.out.keep HCO12.out HNO.out.1)
          obtain ⟨r0, r1, r2, r3, r4, r5, r6, r7, r8⟩ := cells9 HCO13.out.1
          go_wp2_with fail
          refine (fit_any ov z HZ.out (HVO.out.below HT13.out.s.below0)).mono ?_
          rintro e w14 ⟨X2, X3, X4, v2, v3, v4, u2', u3', u4', rfl, HR14, HB14⟩
          have HT14 := Aside0.mk (HT13.out.below HB14.out)
          clear r0 r1 r2 r3 r4 r5 r6 r7 r8
          go_wp2_with fail
          refine (g_put k HKS.out HN.out HNC.out z HFO.out _ rfl _ rfl HR14.out.vc HT14.out.t).mono ?_
          rintro e w15 ⟨rfl, T15, H15⟩
          have HT15 := Aside0.mk (HT14.out.right H15.out)
          go_wp2_with fail
          go_meet
          exact ⟨_, _, now, _, _, _, ⟨HT15.out.s.mono (by omega) (by omega), (putC_same (C := C) z HR.out) ▸ HT15.out.t.mono (by omega) (by omega), HT15.out.d⟩, purge_put z HR.out, ht0, ht1⟩
        · go_wp2_with fail
          obtain ⟨z, hz⟩ : ∃ z, fitV ov = z := ⟨_, rfl⟩
          have HZ := Aside0.mk hz
          have HFO := Aside0.mk (show VFit z by rw [← hz]; exact (fit_eq ov).2)
          clear hz
          refine (fit_any ov z HZ.out (HVO.out.below HT11.out.s.below0)).mono ?_
          rintro e w12 ⟨Z2, Z3, Z4, y2, y3, y4, z2, z3, z4, rfl, HR12, HB12⟩
          have HT12 := Aside0.mk (HT11.out.below HB12.out)
          have HCO12 := Aside0.mk ((HB12.out.block go (pwlt HCO.out)).trans HCO.out)
          clear r0 r1 r2 r3 r4 r5 r6 r7 r8
          go_wp2_with fail
          refine (g_put k HKS.out HN.out HNC.out z HFO.out _ rfl _ rfl HR12.out.vc HT12.out.s).mono ?_
          rintro e w13 ⟨rfl, S13, H13⟩
          have HT13 := Aside0.mk (HT12.out.left H13.out)
          have HCO13 := Aside0.mk (H13.out.keep HCO12.out HNO.out.1)
          obtain ⟨r0, r1, r2, r3, r4, r5, r6, r7, r8⟩ := cells9 HCO13.out.1
          go_wp2_with fail
          refine (fit_any ov z HZ.out (HVO.out.below HT13.out.s.below0)).mono ?_
          rintro e w14 ⟨X2, X3, X4, v2, v3, v4, u2', u3', u4', rfl, HR14, HB14⟩
          have HT14 := Aside0.mk (HT13.out.below HB14.out)
          clear r0 r1 r2 r3 r4 r5 r6 r7 r8
          go_wp2_with fail
          refine (g_put k HKS.out HN.out HNC.out z HFO.out _ rfl _ rfl HR14.out.vc HT14.out.t).mono ?_
          rintro e w15 ⟨rfl, T15, H15⟩
          have HT15 := Aside0.mk (HT14.out.right H15.out)
          go_wp2_with fail
          go_meet
          exact ⟨_, _, now, _, _, _, ⟨HT15.out.s.mono (by omega) (by omega), (putC_same (C := C) z HR.out) ▸ HT15.out.t.mono (by omega) (by omega), HT15.out.d⟩, purge_put z HR.out, ht0, ht1⟩
      case rest =>
        clear HT11 HCO HNO HR HVO r0 r1 r2 r3 r4 r5 r6 r7 r8
        obtain ⟨S', T', now', E', E2', C', htwo, hrel, ht0', ht1'⟩ := hcut
        have HT := Aside0.mk htwo
        have HR := Aside0.mk hrel
        clear htwo hrel
        go_wp2_with fail
        refine (s_purge HT.out.t).mono ?_
        rintro e w20 ⟨rfl, T20, H20⟩
        have HT20 := Aside0.mk (HT.out.right H20.out)
        obtain ⟨P, hP⟩ : ∃ P, purgeE E2' = P := ⟨_, rfl⟩
        rw [hP] at HT20
        have HR20 := Aside0.mk (show purgeE E' = P from HR.out.trans hP)
        have HPP := Aside0.mk (show purgeE P = P by rw [← hP]; exact purge_purge)
        obtain ⟨kl, hkl⟩ : ∃ kl, P.map (·.key) = kl := ⟨_, rfl⟩
        obtain ⟨q, hq⟩ : ∃ q, kl.length = q := ⟨_, rfl⟩
        have HK1 := Aside0.mk (show keysE E' = kl by rw [keys_purge, HR20.out, hkl])
        have HK2 := Aside0.mk (show keysE P = kl by rw [keys_purge, HPP.out, hkl])
        have HQ := Aside0.mk hq
        have HPL := Aside0.mk (show P.length = q by rw [← hq, ← hkl, List.length_map])
        have HEL := Aside0.mk (show q ≤ E'.length by rw [← HPL.out, ← HR20.out]; exact purge_len)
        clear hP hkl hq
        have HQM := Aside0.mk (show q ≤ 1000000 by have := HT20.out.s.len; have := HEL.out; omega)
        go_wp2_with fail
        refine (t_keys kl HK1.out q HQ.out (by omega) HT20.out.s).mono ?_
        rintro e w21 ⟨B, b_, rfl, HB21, HC21, HS21, HBB21⟩
        have HT21 := Aside0.mk (HT20.out.below HBB21.out)
        go_wp2_with fail
        refine (t_keys kl HK2.out q HQ.out (by omega) HT21.out.t).mono ?_
        rintro e w22 ⟨B', b_', rfl, HB22, HC22, HS22, HBB22⟩
        have HT22 := Aside0.mk (HT21.out.below HBB22.out)
        go_wp2_with fail
        refine (texts_same B B' b_ b_' kl q q HQ.out HQ.out _ (Kd.C_below HC21.out HBB22.out) HB21.out HC22.out HB22.out HQM.out).mono ?_
        rintro e w23 ⟨rfl, HBB23⟩
        have HT23 := Aside0.mk (HT22.out.below HBB23.out)
        go_wp2_with fail
        refine (s_held HT23.out.t).mono ?_
        rintro e w24 ⟨rfl, hw24⟩
        subst hw24
        rw [HPL.out]
        go_wp2_with fail
        refine (t_keys kl HK2.out q HQ.out (by omega) HT23.out.t).mono ?_
        rintro e w25 ⟨B25, b25, rfl, HB25, _, _, HBB25⟩
        have HT25 := Aside0.mk (HT23.out.below HBB25.out)
        go_wp2_with fail
        refine (s_held HT25.out.s).mono ?_
        rintro e w26 ⟨rfl, hw26⟩
        subst hw26
        obtain ⟨m, hm⟩ : ∃ m, E'.length = m := ⟨_, rfl⟩
        have HM := Aside0.mk (show q ≤ m by rw [← hm]; exact HEL.out)
        rw [hm]
        clear hm
        go_wp2_with fail
        refine (t_keys kl HK1.out q HQ.out (by omega) HT25.out.s).mono ?_
        rintro e w27 ⟨B27, b27, rfl, HB27, _, _, HBB27⟩
        have HT27 := Aside0.mk (HT25.out.below HBB27.out)
        have hmq : ¬ ((m : Int) < (q : Int)) := by have := HM.out; omega
        go_wp2_with fail
        refine (s_version k HKS.out HT27.out.s).mono ?_
        rintro e w28 ⟨rfl, hw28⟩
        subst hw28
        obtain ⟨vk, hvk⟩ : ∃ v, C' k = v := ⟨_, rfl⟩
        have HVK := Aside0.mk hvk
        rw [hvk]
        clear hvk hmq
        go_wp2_with fail
        refine (s_version k HKS.out HT27.out.t).mono ?_
        rintro e w29 ⟨rfl, hw29⟩
        subst hw29
        rw [HVK.out]
        go_wp2_with fail
        obtain ⟨X, hX⟩ : ∃ X, fndE k (letE k E') = X := ⟨_, rfl⟩
        have HX1 := Aside0.mk hX
        have HX2 := Aside0.mk (show fndE k (letE k P) = X by rw [← fl_same (HR20.out.trans HPP.out.symm)]; exact hX)
        obtain ⟨dd, hdd⟩ : ∃ d, dueE X = d := ⟨_, rfl⟩
        obtain ⟨oo, hoo⟩ : ∃ o, onE X = o := ⟨_, rfl⟩
        have HDO := Aside0.mk (And.intro hdd hoo)
        clear hX hdd hoo
        refine (t_due k HKS.out dd (by rw [HX1.out]; exact HDO.out.1) oo (by rw [HX1.out]; exact HDO.out.2) _ rfl HT27.out.s).mono ?_
        rintro e w30 ⟨rfl, S30, H30⟩
        have HT30 := Aside0.mk (HT27.out.left H30.out)
        go_wp2_with fail
        refine (t_due k HKS.out dd (by rw [HX2.out]; exact HDO.out.1) oo (by rw [HX2.out]; exact HDO.out.2) _ rfl HT30.out.t).mono ?_
        rintro e w31 ⟨rfl, T31, H31⟩
        have HT31 := Aside0.mk (HT30.out.right H31.out)
        go_wp2_with fail
        obtain ⟨x, hx⟩ : ∃ x, valE X = x := ⟨_, rfl⟩
        have HXV := Aside0.mk hx
        have HXO := Aside0.mk (show VOk x by rw [← hx, ← HX1.out]; exact HT27.out.s.vok k)
        clear hx
        refine (v_get k HKS.out x (by rw [let_let, HX1.out]; exact HXV.out) _ rfl HT31.out.s).mono ?_
        rintro e w32 ⟨G2, G3, G4, g2', g3', g4', h2, h3, h4, S32, rfl, HR32, H32⟩
        have HT32 := Aside0.mk (HT31.out.left H32.out)
        go_wp2_with fail
        refine (v_get k HKS.out x (by rw [let_let, HX2.out]; exact HXV.out) _ rfl HT32.out.t).mono ?_
        rintro e w33 ⟨J2, J3, J4, j2, j3, j4, l2, l3, l4, T33, rfl, HR33, H33⟩
        have HT33 := Aside0.mk (HT32.out.right H33.out)
        have HR32' := Aside0.mk (HR32.out.post H33.out HT32.out.t)
        go_wp2_with fail
        refine (same_any HXO.out HR32'.out.vc HR33.out.vc rfl).mono ?_
        rintro e w34 ⟨rfl, HB34⟩
        have HT34 := Aside0.mk (HT33.out.below HB34.out)
        have hdd1 : (dd != dd) = false := by simp
        have hoo1 : (oo != oo) = false := by cases oo <;> rfl
        have HFIN := Aside0.mk (show HAll w w34 g me mc g2 me2 mc2 (i + 1) (50 * (i + 1)) from ⟨_, _, now', _, _, C', ⟨HT34.out.s.mono (by omega) (by omega), HT34.out.t.mono (by omega) (by omega), HT34.out.d⟩, by rw [purge_let, purge_let, purge_let, purge_let, HR20.out, HPP.out], ht0', ht1'⟩)
        go_wp2
        go_roundw
        case rel => exact ⟨i + 1, by simp, by omega, by omega, HFIN⟩
        case measure => simp; omega
    · have hcs : ¬ ((i : Int) < l.length) ∨ ((i : Int) < l.length ∧ ¬ ((i : Int) < 40)) := by omega
      rcases hcs with hc9 | ⟨hc8, hc9⟩
      · obtain ⟨q, hq⟩ : ∃ q, (keysE E).length = q := ⟨_, rfl⟩
        obtain ⟨m, hm⟩ : ∃ m, E.length = m := ⟨_, rfl⟩
        have HQ := Aside0.mk hq
        have HM := Aside0.mk hm
        have HQM := Aside0.mk (show q ≤ m ∧ m ≤ 1000 by
          refine ⟨?_, ?_⟩
          · rw [← hq, ← hm, keys_len]; exact purge_len
          · rw [← hm]; have := HT.out.s.len; omega)
        have HQP := Aside0.mk (show (purgeE E).length = q by rw [← hq, keys_len])
        clear hq hm
        go_wp2_with fail
        refine (s_held HT.out.s).mono ?_
        rintro e w40 ⟨rfl, hw40⟩
        subst hw40
        rw [HM.out]
        go_wp2_with fail
        refine (t_keys _ rfl q HQ.out (by omega) HT.out.s).mono ?_
        rintro e w41 ⟨B41, b41, rfl, _, _, _, HB41⟩
        have HT41 := Aside0.mk (HT.out.below HB41.out)
        have hwr : IntKind.i64.wrap ((m : Int) - (q : Int)) = (m : Int) - (q : Int) := IntWalk.i64_in _ (by have := HQM.out; omega)
        have hwr2 : wrap64 ((m : Int) - (q : Int)) = (m : Int) - (q : Int) := IntWalk.wrap64_in _ (by have := HQM.out; omega)
        go_wp2_with fail
        refine (t_purge _ rfl ((m : Int) - (q : Int)) (by rw [HM.out, HQP.out]) (by rw [HM.out]; have := HQM.out; omega) HT41.out.s).mono ?_
        rintro e w42 ⟨rfl, S42, H42⟩
        have HT42 := Aside0.mk (HT41.out.left H42.out)
        clear hwr hwr2
        have hself : (((m : Int) - (q : Int)) == ((m : Int) - (q : Int))) = true := by simp
        go_wp2_with fail
        refine (s_held HT42.out.s).mono ?_
        rintro e w43 ⟨rfl, hw43⟩
        subst hw43
        rw [HQP.out]
        go_wp2_with fail
        refine (t_keys _ rfl q (by rw [keys_purge, purge_purge, List.length_map]; exact HQP.out) (by omega) HT42.out.s).mono ?_
        rintro e w44 ⟨B44, b44, rfl, _, _, _, HB44⟩
        have HT44 := Aside0.mk (HT42.out.below HB44.out)
        go_wp2
        go_ret
        exact ⟨rfl, HT44.out.s.below0⟩
      · obtain ⟨q, hq⟩ : ∃ q, (keysE E).length = q := ⟨_, rfl⟩
        obtain ⟨m, hm⟩ : ∃ m, E.length = m := ⟨_, rfl⟩
        have HQ := Aside0.mk hq
        have HM := Aside0.mk hm
        have HQM := Aside0.mk (show q ≤ m ∧ m ≤ 1000 by
          refine ⟨?_, ?_⟩
          · rw [← hq, ← hm, keys_len]; exact purge_len
          · rw [← hm]; have := HT.out.s.len; omega)
        have HQP := Aside0.mk (show (purgeE E).length = q by rw [← hq, keys_len])
        clear hq hm
        go_wp2_with fail
        refine (s_held HT.out.s).mono ?_
        rintro e w40 ⟨rfl, hw40⟩
        subst hw40
        rw [HM.out]
        go_wp2_with fail
        refine (t_keys _ rfl q HQ.out (by omega) HT.out.s).mono ?_
        rintro e w41 ⟨B41, b41, rfl, _, _, _, HB41⟩
        have HT41 := Aside0.mk (HT.out.below HB41.out)
        have hwr : IntKind.i64.wrap ((m : Int) - (q : Int)) = (m : Int) - (q : Int) := IntWalk.i64_in _ (by have := HQM.out; omega)
        have hwr2 : wrap64 ((m : Int) - (q : Int)) = (m : Int) - (q : Int) := IntWalk.wrap64_in _ (by have := HQM.out; omega)
        go_wp2_with fail
        refine (t_purge _ rfl ((m : Int) - (q : Int)) (by rw [HM.out, HQP.out]) (by rw [HM.out]; have := HQM.out; omega) HT41.out.s).mono ?_
        rintro e w42 ⟨rfl, S42, H42⟩
        have HT42 := Aside0.mk (HT41.out.left H42.out)
        clear hwr hwr2
        have hself : (((m : Int) - (q : Int)) == ((m : Int) - (q : Int))) = true := by simp
        go_wp2_with fail
        refine (s_held HT42.out.s).mono ?_
        rintro e w43 ⟨rfl, hw43⟩
        subst hw43
        rw [HQP.out]
        go_wp2_with fail
        refine (t_keys _ rfl q (by rw [keys_purge, purge_purge, List.length_map]; exact HQP.out) (by omega) HT42.out.s).mono ?_
        rintro e w44 ⟨B44, b44, rfl, _, _, _, HB44⟩
        have HT44 := Aside0.mk (HT42.out.below HB44.out)
        go_wp2
        go_ret
        exact ⟨rfl, HT44.out.s.below0⟩
end Go.Proofs.Ytmhdkjihhdljlaa.X
