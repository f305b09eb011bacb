/- StoreVersions: its walk. -/
import Derived.Test.YtmhdkjihhdljlaaStOps
import Derived.IntWalk
import Derived.Deep.DeepCutAuto
import Derived.Deep.CutRange
set_option linter.unusedVariables false
set_option linter.unusedSimpArgs false
namespace Go.Proofs.Ytmhdkjihhdljlaa.X
open Go.RowKit Go.Maps Go.ChangeMaps Go.MapKept Go.Proofs.Ytmhdkjihhdljlaa.Mv Go.Proofs.YtmhdkjihhdljlaaW.PrintWords Go.Proofs.YtmhdkjihhdljlaaW.PrintMore
attribute [local go_sem] fieldV0 fieldV1
/-- What stays: b is not touched, all values are some. -/
structure VInv (w0 wr : World) (S : Nat → Prop) (g me mc n nc : Nat) (now : Int) (E : List Ent) (C : ByteArray → Int) : Prop where
  st : StoreSt w0 wr S g me mc n nc now E C
  fb : fndE kb E = none
  cb : C kb = 0
  ks : ∀ e ∈ E, e.v.kind ≠ 0
  t0 : 0 ≤ now
  t1 : now ≤ lst
  rg : -9223372036854775808 ≤ C ka ∧ C ka ≤ 9223372036854775807
section
variable {w0 wr w' : World} {S S' : Nat → Prop} {g me mc n nc n' nc' : Nat} {now now' : Int} {E E' : List Ent} {C C' : ByteArray → Int}
theorem VInv.below (h : VInv w0 wr S g me mc n nc now E C) (hb : Below wr.heap.size wr w') : VInv w0 w' S g me mc n nc now E C := { h with st := h.st.below hb }
theorem VInv.mono (h : VInv w0 wr S g me mc n nc now E C) (h1 : n ≤ n') (h2 : nc ≤ nc') : VInv w0 wr S g me mc n' nc' now E C := { h with st := h.st.mono h1 h2 }
theorem rg_bump (C : ByteArray → Int) : -9223372036854775808 ≤ bump ka C ka ∧ bump ka C ka ≤ 9223372036854775807 := by
  unfold bump
  rw [if_pos rfl]
  unfold wrap64
  omega
theorem rg_putC {v : Vl} {E : List Ent} {C : ByteArray → Int} (h : -9223372036854775808 ≤ C ka ∧ C ka ≤ 9223372036854775807) : -9223372036854775808 ≤ putC ka v E C ka ∧ putC ka v E C ka ≤ 9223372036854775807 := by
  unfold putC
  split
  · exact h
  · exact rg_bump C
theorem rg_setC {E : List Ent} {C : ByteArray → Int} (h : -9223372036854775808 ≤ C ka ∧ C ka ≤ 9223372036854775807) : -9223372036854775808 ≤ setC ka E C ka ∧ setC ka E C ka ≤ 9223372036854775807 := by
  unfold setC
  split
  · exact h
  · exact rg_bump C
theorem rg_tickCE {t : Int} {E : List Ent} {C : ByteArray → Int} (h : -9223372036854775808 ≤ C ka ∧ C ka ≤ 9223372036854775807) : -9223372036854775808 ≤ tickCE t E C ka ∧ tickCE t E C ka ≤ 9223372036854775807 := by
  unfold tickCE
  cases fndE ka E with
  | none => exact h
  | some p =>
    simp only
    split
    · unfold wrap64; omega
    · exact h
theorem kba : kb ≠ ka := by simp
theorem VInv.get (h : VInv w0 wr S g me mc n nc now E C) (hp : Post w0 wr w' S g me mc n nc now (letE ka E) C S') : VInv w0 w' S' g me mc n nc now (letE ka E) C :=
  ⟨hp.st, (f_let kba).trans h.fb, h.cb, all_let (P := fun e => e.v.kind ≠ 0) h.ks, h.t0, h.t1, h.rg⟩
theorem VInv.put (h : VInv w0 wr S g me mc n nc now E C) (v : Vl) (hp : Post w0 wr w' S g me mc n' nc' now (putE ka v E) (putC ka v E C) S') : VInv w0 w' S' g me mc n' nc' now (putE ka v E) (putC ka v E C) :=
  ⟨hp.st, (f_put kba v).trans h.fb, (c_put kba v).trans h.cb, all_put (Q := fun v => v.kind ≠ 0) h.ks v (fun h => h), h.t0, h.t1, rg_putC h.rg⟩
theorem VInv.set (h : VInv w0 wr S g me mc n nc now E C) (a : Int) (on : Bool) (hp : Post w0 wr w' S g me mc n' nc' now (setE ka now a on E) (setC ka E C) S') : VInv w0 w' S' g me mc n' nc' now (setE ka now a on E) (setC ka E C) :=
  ⟨hp.st, (f_set kba now a on).trans h.fb, (c_set kba).trans h.cb, all_set (Q := fun v => v.kind ≠ 0) h.ks now a on, h.t0, h.t1, rg_setC h.rg⟩
theorem VInv.purge (h : VInv w0 wr S g me mc n nc now E C) (hp : Post w0 wr w' S g me mc n' nc' now (purgeE E) C S') : VInv w0 w' S' g me mc n' nc' now (purgeE E) C :=
  ⟨hp.st, by
    cases hf : fndE kb (purgeE E) with
    | none => rfl
    | some x =>
      obtain ⟨h1, h2⟩ := f_key hf
      have := List.find?_eq_none.1 h.fb x (List.mem_filter.1 h1).1
      simp [h2] at this, h.cb, all_purge (P := fun e => e.v.kind ≠ 0) h.ks, h.t0, h.t1, h.rg⟩
theorem VInv.tick (h : VInv w0 wr S g me mc n nc now E C) (d : Int) (hp : Post w0 wr w' S g me mc n' nc' (timeU now d) (tickE (timeU now d) E) (tickCE (timeU now d) E C) S') : VInv w0 w' S' g me mc n' nc' (timeU now d) (tickE (timeU now d) E) (tickCE (timeU now d) E C) :=
  ⟨hp.st, by rw [f_tick, h.fb]; rfl, by unfold tickCE; rw [h.fb]; exact h.cb, all_tick (Q := fun v => v.kind ≠ 0) h.ks _, (timeU_bd h.t0).1, (timeU_bd h.t0).2, rg_tickCE h.rg⟩
end
/-- Behind a thing that was done: 'more' tells what became of the key. -/
def VAll (w0 wx : World) (g me mc n nc : Nat) (nv : Int) (s9 : Value) : Prop := ∃ (r : Int) (S : Nat → Prop) (now : Int) (E : List Ent) (C : ByteArray → Int), s9 = .int .i64 r ∧ VInv w0 wx S g me mc n nc now E C ∧ C ka = wrap64 (nv + r) ∧ 0 ≤ r ∧ r ≤ 1
section
variable {w0 wr w' : World} {S S' : Nat → Prop} {g me mc n nc n' nc' : Nat} {now now' nv : Int} {E E' : List Ent} {C C' : ByteArray → Int}
theorem VInv.all0 (h : VInv w0 wr S g me mc n nc now E C) (hv : C ka = nv) (h1 : n ≤ n') (h2 : nc ≤ nc') : VAll w0 wr g me mc n' nc' nv (.int .i64 0) :=
  ⟨0, S, now, E, C, rfl, h.mono h1 h2, by have := h.rg; rw [hv] at *; rw [Int.add_zero]; exact (IntWalk.wrap64_in nv this).symm, by omega, by omega⟩
theorem VInv.all1 (h : VInv w0 wr S g me mc n nc now E C) (hv : C ka = wrap64 (nv + 1)) (h1 : n ≤ n') (h2 : nc ≤ nc') : VAll w0 wr g me mc n' nc' nv (.int .i64 1) :=
  ⟨1, S, now, E, C, rfl, h.mono h1 h2, hv, by omega, by omega⟩
theorem c_put1 (v : Vl) (h : ¬ (v.kind = 0 ∧ fndE ka (letE ka E) = none)) (hv : C ka = nv) : putC ka v E C ka = wrap64 (nv + 1) := by
  unfold putC
  rw [if_neg h]
  unfold bump
  rw [if_pos rfl, hv]
theorem c_put0 (v : Vl) (h : v.kind = 0 ∧ fndE ka (letE ka E) = none) (hv : C ka = nv) : putC ka v E C ka = nv := by
  unfold putC
  rw [if_pos h, hv]
theorem c_set1 (h : fndE ka (letE ka E) ≠ none) (hv : C ka = nv) : setC ka E C ka = wrap64 (nv + 1) := by
  unfold setC
  rw [if_neg h]
  unfold bump
  rw [if_pos rfl, hv]
theorem c_set0 (h : fndE ka (letE ka E) = none) (hv : C ka = nv) : setC ka E C ka = nv := by
  unfold setC
  rw [if_pos h, hv]
theorem c_tick (t : Int) (h : ∀ p, fndE ka E = some p → dueNow t p = false) (hv : C ka = nv) : tickCE t E C ka = nv := by
  unfold tickCE
  cases hf : fndE ka E with
  | none => exact hv
  | some p =>
    simp only
    rw [h p hf, if_neg (by simp), hv]
theorem c_tick1 (t : Int) (p : Ent) (hp : fndE ka E = some p) (h : dueNow t p = true) (hv : C ka = nv) : tickCE t E C ka = wrap64 (nv + 1) := by
  unfold tickCE
  rw [hp]
  simp only
  rw [h, if_pos rfl, hv]
/-- A key that has just gone past is let go of. -/
theorem gone_tick {t : Int} {p : Ent} (hu : ∀ e ∈ E, fndE e.key E = some e) (hp : fndE ka E = some p) (h : dueNow t p = true) : fndE ka (letE ka (tickE t E)) = none := by
  cases hf : fndE ka (letE ka (tickE t E)) with
  | none => rfl
  | some x =>
    obtain ⟨h1, h2, h3⟩ := fl_key hf
    obtain ⟨a, ha, rfl⟩ := List.mem_map.1 h1
    have hk := (tick1_v t a).2.1
    have := hu a ha
    rw [← hk, h2, hp] at this
    cases this
    unfold tick1 at h3
    rw [h, if_pos rfl] at h3
    cases h3
end
theorem wrap_ne {n : Int} : wrap64 (n + 1) ≠ n := by unfold wrap64; omega
set_option maxHeartbeats 4000000 in
set_option maxRecDepth 100000 in
theorem StoreVersions_walk (A1 : Option Addr) (l : List Op10) (c1 : Nat) (w : World) (hl : kOp.C w A1 l.length l) (hc : l.length ≤ c1) (hok : ∀ o ∈ l, OpOk o) :
    Calls Try.prog 4 #[.slice A1 l.length c1] w fun e w' => e = .returned (.bool true) ∧ Below w.heap.size w w' := by
  have HL := Aside0.mk hl
  have HOK := Aside0.mk hok
  have HC := Aside0.mk hc
  clear hl hok hc
  go_enter Try.func4, Try.ntmps4
  go_wp2_with fail
  refine (shown_true w).mono ?_
  rintro e w3 ⟨rfl, HB3⟩
  go_wp2_with fail
  refine (s_new HB3.out).mono ?_
  rintro e w4 ⟨g, me, mc, S4, rfl, H4, HN4, HB4⟩
  have HA4 := Aside0.mk (show VInv w w4 S4 g me mc 0 0 0 [] (fun _ => 0) from ⟨H4.out, rfl, rfl, fun e h => (by cases h), by omega, by decide, by simp⟩)
  go_wp2
  go_loopw [5] (fun v5 wr => ∃ (i : Nat) (S : Nat → Prop) (now : Int) (E : List Ent) (C : ByteArray → Int), v5 = .int .i64 i ∧ i ≤ 40 ∧ i ≤ l.length ∧ Aside0 (VInv w wr S g me mc i (50 * i) now E C)) (fun v5 _ => 40 - (match v5 with | .int _ i => i.toNat | _ => 0))
  case atStart => exact ⟨0, _, _, _, _, rfl, by omega, by omega, HA4⟩
  case round =>
    clear H4 HN4 HB4 HB3 HA4
    obtain ⟨i, S, now, E, C, rfl, hi, hil, HA⟩ := hrel
    by_cases hlt : i < l.length ∧ i < 40
    · obtain ⟨hl1, hl2⟩ := hlt
      have hI1 : (i : Int) < l.length := by omega
      have hI2 : (i : Int) < 40 := by omega
      obtain ⟨ad, p, D2, D3, D4, o2, o3, o4, f2, f3, f4, e0, hp, hvo, k0, k1, k2, k3, k4, k5, k6, k7, k8⟩ := op_cells2 HL.out HA.out.st.below0 hl1
      subst e0
      have hon := HOK.out _ (List.getElem_mem hl1)
      rw [show l[i] = l.getD i op0 by rw [List.getD_eq_getElem?_getD, List.getElem?_eq_getElem hl1]; rfl] at hon
      obtain ⟨o, ho⟩ : ∃ o, l.getD i op0 = o := ⟨_, rfl⟩
      rw [ho] at hvo k0 k1 k2 k3 k7 k8 hon
      obtain ⟨ok_, okey, ov, on_, oon⟩ := o
      simp only at hvo k0 k1 k2 k3 k7 k8
      have hk0 := hon.kind.1
      have hk1 := hon.kind.2
      simp only at hk0 hk1
      have HVO := Aside0.mk hvo
      clear ho hon hvo
      go_wp2_with fail
      obtain ⟨w10, hw10, HB10, HC10⟩ := named_alloc wr #[.int .u8 ok_, .string okey, .int .u8 ov.kind, .string ov.s, .slice D2 o2 f2, .slice D3 o3 f3, .slice D4 o4 f4, .int .i64 on_, .bool oon] 42
      have HA10 := Aside0.mk (HA.out.below HB10.out)
      obtain ⟨go, hgo⟩ : ∃ q, wr.heap.size = q := ⟨_, rfl⟩
      have HNO := Aside0.mk (show ¬ S go from fun h => by have := (HA.out.st.in_ _ h).2; omega)
      rw [hgo] at HC10
      rw [hw10, hgo]
      clear hw10 hgo k0 k1 k2 k3 k4 k5 k6 k7 k8 HA hp
      refine (s_version ka (by decide) HA10.out.st).mono ?_
      rintro e w11 ⟨rfl, hw11⟩
      subst hw11
      obtain ⟨nv, hnv⟩ : ∃ n, C ka = n := ⟨_, rfl⟩
      have HNV := Aside0.mk hnv
      rw [hnv]
      clear hnv
      go_wp2_with fail
      obtain ⟨x, hx⟩ : ∃ x, valE (fndE ka (letE ka E)) = x := ⟨_, rfl⟩
      have HX := Aside0.mk hx
      refine (v_get ka (by decide) x hx _ rfl HA10.out.st).mono ?_
      clear hx
      rintro e w12 ⟨B2, B3, B4, m2, m3, m4, e2, e3, e4, S12, rfl, HR12, H12⟩
      have HA12 := Aside0.mk (HA10.out.get H12.out)
      obtain ⟨hc12, hn12⟩ := H12.out.keep HC10.out HNO.out
      have HC12 := Aside0.mk hc12
      have HN12 := Aside0.mk hn12
      clear hc12 hn12
      obtain ⟨w13, hw13, HB13, HC13⟩ := named_alloc w12 #[.int .u8 x.kind, .string x.s, .slice B2 m2 e2, .slice B3 m3 e3, .slice B4 m4 e4] 26
      have HA13 := Aside0.mk (HA12.out.below HB13.out)
      have HVO13 := Aside0.mk (HVO.out.below HA13.out.st.below0)
      have HCO := Aside0.mk ((HB13.out.block go (pwlt HC12.out)).trans HC12.out)
      have HNX := Aside0.mk (show ¬ S12 w12.heap.size from fun h => by have := (H12.out.st.in_ _ h).2; omega)
      obtain ⟨gx, hgx⟩ : ∃ q, w12.heap.size = q := ⟨_, rfl⟩
      rw [hgx] at HC13 HNX
      obtain ⟨r0, r1, r2, r3, r4, r5, r6, r7, r8⟩ := cells9 HCO.out
      obtain ⟨q0, q1, q2, q3, q4⟩ := cells5 HC13.out
      go_upto_block 2 with (fail)
      clear hw13 hgx
      go_cut [2, 9, 10, 39, 54, 58, 66, 85, 93, 97] (fun _ s9 _ _ _ _ _ _ _ _ wx => VAll w wx g me mc (i + 1) (50 * i + 50) nv s9)
      case first =>
        have hk8 : ok_ % 8 = 0 ∨ ok_ % 8 = 1 ∨ ok_ % 8 = 2 ∨ ok_ % 8 = 3 ∨ ok_ % 8 = 4 ∨ ok_ % 8 = 5 ∨ ok_ % 8 = 6 ∨ ok_ % 8 = 7 := by omega
        cases hX : fndE ka (letE ka E) with
        | none =>
          have hx0 : x.kind = 0 := by rw [← HX.out, hX]; rfl
          have HK1 := Aside0.mk (show (x.kind == 0) = true by simpa using hx0)
          have HK2 := Aside0.mk (show (x.kind != 0) = false by simpa using hx0)
          have HXE := Aside0.mk hX
          have HXN := Aside0.mk (show fndE ka (letE ka (letE ka E)) = none by rw [let_let]; exact hX)
          have HXB := Aside0.mk (show (fndE ka (letE ka (letE ka E))).isSome = false by rw [let_let, hX]; rfl)
          clear hX hx0
          rcases hk8 with hk | hk | hk | hk | hk | hk | hk | hk
          · go_wp2_with fail
            refine (fit_any ov (fitV ov) rfl HVO13.out).mono ?_
            rintro e w14 ⟨Z2, Z3, Z4, y2, y3, y4, z2, z3, z4, rfl, HR14, HB14⟩
            have HA14 := Aside0.mk (HA13.out.below HB14.out)
            have HFO := Aside0.mk (fit_eq ov).2
            obtain ⟨z, hz⟩ : ∃ z, fitV ov = z := ⟨_, rfl⟩
            rw [hz] at HR14 HFO ⊢
            have HCX := Aside0.mk ((HB14.out.block gx (pwlt HC13.out)).trans HC13.out)
            clear hz r0 r1 r2 r3 r4 r5 r6 r7 r8 q0 q1 q2 q3 q4
            obtain ⟨w15, hw15, HB15, HC15⟩ := named_alloc w14 #[.int .u8 z.kind, .string z.s, .slice Z2 y2 z2, .slice Z3 y3 z3, .slice Z4 y4 z4] 26
            have HA15 := Aside0.mk (HA14.out.below HB15.out)
            have HR15 := Aside0.mk (HR14.out.below HB15.out)
            have HCX15 := Aside0.mk ((HB15.out.block gx (pwlt HCX.out)).trans HCX.out)
            have HNZ := Aside0.mk (show ¬ S12 w14.heap.size from fun h => by have := (HA14.out.st.in_ _ h).2; omega)
            obtain ⟨gz, hgz⟩ : ∃ q, w14.heap.size = q := ⟨_, rfl⟩
            rw [hgz] at HC15 HNZ
            obtain ⟨s0, s1, s2, s3, s4⟩ := cells5 HC15.out
            go_wp2_with fail
            clear hw15 hgz s0 s1 s2 s3 s4
            refine (g_put ka (by decide) (by unfold maxLen; omega) (by unfold maxLen; omega) z HFO.out _ rfl _ rfl HR15.out.vc HA15.out.st).mono ?_
            rintro e w16 ⟨rfl, S16, H16⟩
            have HA16 := Aside0.mk (HA15.out.put z H16.out)
            have t0 := (cells5 (H16.out.keep HC15.out HNZ.out).1).1
            have t1 := (cells5 (H16.out.keep HCX15.out HNX.out).1).1
            have hk1 := HK1.out
            have hk2 := HK2.out
            by_cases hz0 : z.kind = 0
            · have hz1 : (z.kind == 0) = true := by simpa using hz0
              have hz2 : (z.kind != 0) = false := by simpa using hz0
              have HZ0 := Aside0.mk hz0
              clear hz0
              go_wp2_with fail
              go_meet
              exact HA16.out.all0 (c_put0 z ⟨HZ0.out, HXN.out⟩ HNV.out) (by omega) (by omega)
            · have hz1 : (z.kind == 0) = false := by simpa using hz0
              have hz2 : (z.kind != 0) = true := by simpa using hz0
              have HZ0 := Aside0.mk hz0
              clear hz0
              go_wp2_with fail
              go_meet
              exact HA16.out.all1 (c_put1 z (fun h => HZ0.out h.1) HNV.out) (by omega) (by omega)
          · go_wp2_with fail
            refine (fit_any ov (fitV ov) rfl HVO13.out).mono ?_
            rintro e w14 ⟨Z2, Z3, Z4, y2, y3, y4, z2, z3, z4, rfl, HR14, HB14⟩
            have HA14 := Aside0.mk (HA13.out.below HB14.out)
            have HFO := Aside0.mk (fit_eq ov).2
            obtain ⟨z, hz⟩ : ∃ z, fitV ov = z := ⟨_, rfl⟩
            rw [hz] at HR14 HFO ⊢
            have HCX := Aside0.mk ((HB14.out.block gx (pwlt HC13.out)).trans HC13.out)
            clear hz r0 r1 r2 r3 r4 r5 r6 r7 r8 q0 q1 q2 q3 q4
            obtain ⟨w15, hw15, HB15, HC15⟩ := named_alloc w14 #[.int .u8 z.kind, .string z.s, .slice Z2 y2 z2, .slice Z3 y3 z3, .slice Z4 y4 z4] 26
            have HA15 := Aside0.mk (HA14.out.below HB15.out)
            have HR15 := Aside0.mk (HR14.out.below HB15.out)
            have HCX15 := Aside0.mk ((HB15.out.block gx (pwlt HCX.out)).trans HCX.out)
            have HNZ := Aside0.mk (show ¬ S12 w14.heap.size from fun h => by have := (HA14.out.st.in_ _ h).2; omega)
            obtain ⟨gz, hgz⟩ : ∃ q, w14.heap.size = q := ⟨_, rfl⟩
            rw [hgz] at HC15 HNZ
            obtain ⟨s0, s1, s2, s3, s4⟩ := cells5 HC15.out
            go_wp2_with fail
            clear hw15 hgz s0 s1 s2 s3 s4
            refine (g_put ka (by decide) (by unfold maxLen; omega) (by unfold maxLen; omega) z HFO.out _ rfl _ rfl HR15.out.vc HA15.out.st).mono ?_
            rintro e w16 ⟨rfl, S16, H16⟩
            have HA16 := Aside0.mk (HA15.out.put z H16.out)
            have t0 := (cells5 (H16.out.keep HC15.out HNZ.out).1).1
            have t1 := (cells5 (H16.out.keep HCX15.out HNX.out).1).1
            have hk1 := HK1.out
            have hk2 := HK2.out
            by_cases hz0 : z.kind = 0
            · have hz1 : (z.kind == 0) = true := by simpa using hz0
              have hz2 : (z.kind != 0) = false := by simpa using hz0
              have HZ0 := Aside0.mk hz0
              clear hz0
              go_wp2_with fail
              go_meet
              exact HA16.out.all0 (c_put0 z ⟨HZ0.out, HXN.out⟩ HNV.out) (by omega) (by omega)
            · have hz1 : (z.kind == 0) = false := by simpa using hz0
              have hz2 : (z.kind != 0) = true := by simpa using hz0
              have HZ0 := Aside0.mk hz0
              clear hz0
              go_wp2_with fail
              go_meet
              exact HA16.out.all1 (c_put1 z (fun h => HZ0.out h.1) HNV.out) (by omega) (by omega)
          · go_wp2_with fail
            refine (v_get ka (by decide) _ rfl _ rfl HA13.out.st).mono ?_
            rintro e w14 ⟨Z2, Z3, Z4, y2, y3, y4, z2, z3, z4, S14, rfl, _, H14⟩
            have HA14 := Aside0.mk (HA13.out.get H14.out)
            go_wp2_with fail
            go_meet
            exact HA14.out.all0 HNV.out (by omega) (by omega)
          · go_wp2_with fail
            refine (t_set ka (by decide) (by unfold maxLen; omega) on_ oon false HXB.out _ rfl _ rfl HA13.out.st).mono ?_
            rintro e w14 ⟨rfl, S14, H14⟩
            have HA14 := Aside0.mk (HA13.out.set on_ oon H14.out)
            go_wp2_with fail
            go_meet
            exact HA14.out.all0 (c_set0 HXN.out HNV.out) (by omega) (by omega)
          · go_wp2_with fail
            refine (t_tick on_ (by unfold maxLen; omega) _ rfl _ rfl _ rfl HA13.out.st HA13.out.t0 HA13.out.t1).mono ?_
            rintro e w14 ⟨rfl, S14, H14⟩
            have HA14 := Aside0.mk (HA13.out.tick on_ H14.out)
            have HCX := Aside0.mk (H14.out.keep HC13.out HNX.out)
            clear r0 r1 r2 r3 r4 r5 r6 r7 r8 q0 q1 q2 q3 q4
            go_wp2_with fail
            refine (s_version ka (by decide) HA14.out.st).mono ?_
            rintro e w15 ⟨rfl, hw15⟩
            subst hw15
            rw [c_tick (timeU now on_) (fun p h => by rw [HXE.out] at h; cases h) HNV.out]
            go_wp2_with fail
            go_meet
            exact HA14.out.all0 (c_tick (timeU now on_) (fun p h => by rw [HXE.out] at h; cases h) HNV.out) (by omega) (by omega)
          · have hk1 := HK1.out
            have hk2 := HK2.out
            go_wp2_with fail
            refine (t_putn ka (by decide) (by unfold maxLen; omega) noneV rfl _ rfl _ rfl _ _ _ _ _ _ _ _ _ _ HA13.out.st).mono ?_
            rintro e w14 ⟨rfl, S14, H14⟩
            have HA14 := Aside0.mk (HA13.out.put noneV H14.out)
            have t1 := (cells5 (H14.out.keep HC13.out HNX.out).1).1
            clear r0 r1 r2 r3 r4 r5 r6 r7 r8 q0 q1 q2 q3 q4
            go_wp2_with fail
            go_meet
            exact HA14.out.all0 (c_put0 noneV ⟨rfl, HXN.out⟩ HNV.out) (by omega) (by omega)
          · go_wp2_with fail
            refine (s_purge HA13.out.st).mono ?_
            rintro e w14 ⟨rfl, S14, H14⟩
            have HA14 := Aside0.mk (HA13.out.purge H14.out)
            go_wp2_with fail
            go_meet
            exact HA14.out.all0 HNV.out (by omega) (by omega)
          · go_wp2_with fail
            refine (t_due ka (by decide) _ rfl _ rfl _ rfl HA13.out.st).mono ?_
            rintro e w14 ⟨rfl, S14, H14⟩
            have HA14 := Aside0.mk (HA13.out.get H14.out)
            go_wp2_with fail
            go_meet
            exact HA14.out.all0 HNV.out (by omega) (by omega)
        | some p =>
          have hx0 : x.kind ≠ 0 := by rw [← HX.out, hX]; exact HA13.out.ks p (f_key hX).1
          have HK1 := Aside0.mk (show (x.kind == 0) = false by simpa using hx0)
          have HK2 := Aside0.mk (show (x.kind != 0) = true by simpa using hx0)
          have HXE := Aside0.mk hX
          have HXN := Aside0.mk (show fndE ka (letE ka (letE ka E)) ≠ none by rw [let_let, hX]; simp)
          have HXB := Aside0.mk (show (fndE ka (letE ka (letE ka E))).isSome = true by rw [let_let, hX]; rfl)
          clear hX hx0
          rcases hk8 with hk | hk | hk | hk | hk | hk | hk | hk
          · go_wp2_with fail
            refine (fit_any ov (fitV ov) rfl HVO13.out).mono ?_
            rintro e w14 ⟨Z2, Z3, Z4, y2, y3, y4, z2, z3, z4, rfl, HR14, HB14⟩
            have HA14 := Aside0.mk (HA13.out.below HB14.out)
            have HFO := Aside0.mk (fit_eq ov).2
            obtain ⟨z, hz⟩ : ∃ z, fitV ov = z := ⟨_, rfl⟩
            rw [hz] at HR14 HFO ⊢
            have HCX := Aside0.mk ((HB14.out.block gx (pwlt HC13.out)).trans HC13.out)
            clear hz r0 r1 r2 r3 r4 r5 r6 r7 r8 q0 q1 q2 q3 q4
            obtain ⟨w15, hw15, HB15, HC15⟩ := named_alloc w14 #[.int .u8 z.kind, .string z.s, .slice Z2 y2 z2, .slice Z3 y3 z3, .slice Z4 y4 z4] 26
            have HA15 := Aside0.mk (HA14.out.below HB15.out)
            have HR15 := Aside0.mk (HR14.out.below HB15.out)
            have HCX15 := Aside0.mk ((HB15.out.block gx (pwlt HCX.out)).trans HCX.out)
            have HNZ := Aside0.mk (show ¬ S12 w14.heap.size from fun h => by have := (HA14.out.st.in_ _ h).2; omega)
            obtain ⟨gz, hgz⟩ : ∃ q, w14.heap.size = q := ⟨_, rfl⟩
            rw [hgz] at HC15 HNZ
            obtain ⟨s0, s1, s2, s3, s4⟩ := cells5 HC15.out
            go_wp2_with fail
            clear hw15 hgz s0 s1 s2 s3 s4
            refine (g_put ka (by decide) (by unfold maxLen; omega) (by unfold maxLen; omega) z HFO.out _ rfl _ rfl HR15.out.vc HA15.out.st).mono ?_
            rintro e w16 ⟨rfl, S16, H16⟩
            have HA16 := Aside0.mk (HA15.out.put z H16.out)
            have t0 := (cells5 (H16.out.keep HC15.out HNZ.out).1).1
            have t1 := (cells5 (H16.out.keep HCX15.out HNX.out).1).1
            have hk1 := HK1.out
            have hk2 := HK2.out
            by_cases hz0 : z.kind = 0
            · have hz1 : (z.kind == 0) = true := by simpa using hz0
              have hz2 : (z.kind != 0) = false := by simpa using hz0
              have HZ0 := Aside0.mk hz0
              clear hz0
              go_wp2_with fail
              go_meet
              exact HA16.out.all1 (c_put1 z (fun h => HXN.out h.2) HNV.out) (by omega) (by omega)
            · have hz1 : (z.kind == 0) = false := by simpa using hz0
              have hz2 : (z.kind != 0) = true := by simpa using hz0
              have HZ0 := Aside0.mk hz0
              clear hz0
              go_wp2_with fail
              go_meet
              exact HA16.out.all1 (c_put1 z (fun h => HZ0.out h.1) HNV.out) (by omega) (by omega)
          · go_wp2_with fail
            refine (fit_any ov (fitV ov) rfl HVO13.out).mono ?_
            rintro e w14 ⟨Z2, Z3, Z4, y2, y3, y4, z2, z3, z4, rfl, HR14, HB14⟩
            have HA14 := Aside0.mk (HA13.out.below HB14.out)
            have HFO := Aside0.mk (fit_eq ov).2
            obtain ⟨z, hz⟩ : ∃ z, fitV ov = z := ⟨_, rfl⟩
            rw [hz] at HR14 HFO ⊢
            have HCX := Aside0.mk ((HB14.out.block gx (pwlt HC13.out)).trans HC13.out)
            clear hz r0 r1 r2 r3 r4 r5 r6 r7 r8 q0 q1 q2 q3 q4
            obtain ⟨w15, hw15, HB15, HC15⟩ := named_alloc w14 #[.int .u8 z.kind, .string z.s, .slice Z2 y2 z2, .slice Z3 y3 z3, .slice Z4 y4 z4] 26
            have HA15 := Aside0.mk (HA14.out.below HB15.out)
            have HR15 := Aside0.mk (HR14.out.below HB15.out)
            have HCX15 := Aside0.mk ((HB15.out.block gx (pwlt HCX.out)).trans HCX.out)
            have HNZ := Aside0.mk (show ¬ S12 w14.heap.size from fun h => by have := (HA14.out.st.in_ _ h).2; omega)
            obtain ⟨gz, hgz⟩ : ∃ q, w14.heap.size = q := ⟨_, rfl⟩
            rw [hgz] at HC15 HNZ
            obtain ⟨s0, s1, s2, s3, s4⟩ := cells5 HC15.out
            go_wp2_with fail
            clear hw15 hgz s0 s1 s2 s3 s4
            refine (g_put ka (by decide) (by unfold maxLen; omega) (by unfold maxLen; omega) z HFO.out _ rfl _ rfl HR15.out.vc HA15.out.st).mono ?_
            rintro e w16 ⟨rfl, S16, H16⟩
            have HA16 := Aside0.mk (HA15.out.put z H16.out)
            have t0 := (cells5 (H16.out.keep HC15.out HNZ.out).1).1
            have t1 := (cells5 (H16.out.keep HCX15.out HNX.out).1).1
            have hk1 := HK1.out
            have hk2 := HK2.out
            by_cases hz0 : z.kind = 0
            · have hz1 : (z.kind == 0) = true := by simpa using hz0
              have hz2 : (z.kind != 0) = false := by simpa using hz0
              have HZ0 := Aside0.mk hz0
              clear hz0
              go_wp2_with fail
              go_meet
              exact HA16.out.all1 (c_put1 z (fun h => HXN.out h.2) HNV.out) (by omega) (by omega)
            · have hz1 : (z.kind == 0) = false := by simpa using hz0
              have hz2 : (z.kind != 0) = true := by simpa using hz0
              have HZ0 := Aside0.mk hz0
              clear hz0
              go_wp2_with fail
              go_meet
              exact HA16.out.all1 (c_put1 z (fun h => HZ0.out h.1) HNV.out) (by omega) (by omega)
          · go_wp2_with fail
            refine (v_get ka (by decide) _ rfl _ rfl HA13.out.st).mono ?_
            rintro e w14 ⟨Z2, Z3, Z4, y2, y3, y4, z2, z3, z4, S14, rfl, _, H14⟩
            have HA14 := Aside0.mk (HA13.out.get H14.out)
            go_wp2_with fail
            go_meet
            exact HA14.out.all0 HNV.out (by omega) (by omega)
          · go_wp2_with fail
            refine (t_set ka (by decide) (by unfold maxLen; omega) on_ oon true HXB.out _ rfl _ rfl HA13.out.st).mono ?_
            rintro e w14 ⟨rfl, S14, H14⟩
            have HA14 := Aside0.mk (HA13.out.set on_ oon H14.out)
            go_wp2_with fail
            go_meet
            exact HA14.out.all1 (c_set1 HXN.out HNV.out) (by omega) (by omega)
          · go_wp2_with fail
            refine (t_tick on_ (by unfold maxLen; omega) _ rfl _ rfl _ rfl HA13.out.st HA13.out.t0 HA13.out.t1).mono ?_
            rintro e w14 ⟨rfl, S14, H14⟩
            have HA14 := Aside0.mk (HA13.out.tick on_ H14.out)
            have HCX := Aside0.mk (H14.out.keep HC13.out HNX.out)
            clear r0 r1 r2 r3 r4 r5 r6 r7 r8 q0 q1 q2 q3 q4
            go_wp2_with fail
            refine (s_version ka (by decide) HA14.out.st).mono ?_
            rintro e w15 ⟨rfl, hw15⟩
            subst hw15
            by_cases hdn : dueNow (timeU now on_) p = true
            · have HDN := Aside0.mk hdn
              rw [c_tick1 (timeU now on_) p HXE.out hdn HNV.out]
              have hne : (wrap64 (nv + 1) != nv) = true := by simpa using wrap_ne
              have hne' : (wrap64 (nv + 1) == nv) = false := by simpa using wrap_ne
              clear hdn
              go_wp2_with fail
              refine (v_get ka (by decide) noneV (by rw [gone_tick HA13.out.st.uniq HXE.out HDN.out]; rfl) _ rfl HA14.out.st).mono ?_
              rintro e w16 ⟨Z2, Z3, Z4, y2, y3, y4, z2, z3, z4, S16, rfl, _, H16⟩
              simp only [noneV]
              have HA16 := Aside0.mk (HA14.out.get H16.out)
              have t1 := (cells5 (H16.out.keep HCX.out.1 HCX.out.2).1).1
              have hk1 := HK1.out
              have hk2 := HK2.out
              clear hne hne'
              go_wp2_with fail
              go_meet
              exact HA16.out.all1 (c_tick1 (timeU now on_) p HXE.out HDN.out HNV.out) (by omega) (by omega)
            · have HDN := Aside0.mk (show ∀ p', fndE ka (letE ka E) = some p' → dueNow (timeU now on_) p' = false from fun p' h => by rw [HXE.out] at h; cases h; simpa using hdn)
              clear hdn
              rw [c_tick (timeU now on_) HDN.out HNV.out]
              go_wp2_with fail
              go_meet
              exact HA14.out.all0 (c_tick (timeU now on_) HDN.out HNV.out) (by omega) (by omega)
          · have hk1 := HK1.out
            have hk2 := HK2.out
            go_wp2_with fail
            refine (t_putn ka (by decide) (by unfold maxLen; omega) noneV rfl _ rfl _ rfl _ _ _ _ _ _ _ _ _ _ HA13.out.st).mono ?_
            rintro e w14 ⟨rfl, S14, H14⟩
            have HA14 := Aside0.mk (HA13.out.put noneV H14.out)
            have t1 := (cells5 (H14.out.keep HC13.out HNX.out).1).1
            clear r0 r1 r2 r3 r4 r5 r6 r7 r8 q0 q1 q2 q3 q4
            go_wp2_with fail
            go_meet
            exact HA14.out.all1 (c_put1 noneV (fun h => HXN.out h.2) HNV.out) (by omega) (by omega)
          · go_wp2_with fail
            refine (s_purge HA13.out.st).mono ?_
            rintro e w14 ⟨rfl, S14, H14⟩
            have HA14 := Aside0.mk (HA13.out.purge H14.out)
            go_wp2_with fail
            go_meet
            exact HA14.out.all0 HNV.out (by omega) (by omega)
          · go_wp2_with fail
            refine (t_due ka (by decide) _ rfl _ rfl _ rfl HA13.out.st).mono ?_
            rintro e w14 ⟨rfl, S14, H14⟩
            have HA14 := Aside0.mk (HA13.out.get H14.out)
            go_wp2_with fail
            go_meet
            exact HA14.out.all0 HNV.out (by omega) (by omega)
      case rest =>
        clear HA10 HA12 HA13 HVO13 HC10 HC12 HC13 HB10 HB13 HCO HNX HN12 HNO HR12 H12 r0 r1 r2 r3 r4 r5 r6 r7 r8 q0 q1 q2 q3 q4
        obtain ⟨r, S', now', E', C', rfl, hA', hcv, hr0, hr1⟩ := hcut
        have HA' := Aside0.mk hA'
        have HCV := Aside0.mk hcv
        clear hA' hcv
        go_wp2_with fail
        refine (s_version ka (by decide) HA'.out.st).mono ?_
        rintro e w20 ⟨rfl, hw20⟩
        subst hw20
        rw [HCV.out]
        go_wp2_with fail
        refine (s_version kb (by decide) HA'.out.st).mono ?_
        rintro e w21 ⟨rfl, hw21⟩
        subst hw21
        rw [HA'.out.cb]
        go_wp2
        go_roundw
        case rel => exact ⟨i + 1, S', now', E', C', by simp, by omega, by omega, ⟨HA'.out.mono (by omega) (by omega)⟩⟩
        case measure => simp; omega
    · have hcs : ¬ ((i : Int) < l.length) ∨ ((i : Int) < l.length ∧ ¬ ((i : Int) < 40)) := by omega
      rcases hcs with hc9 | ⟨hc8, hc9⟩
      · go_wp2
        go_ret
        exact ⟨rfl, HA.out.st.below0⟩
      · go_wp2
        go_ret
        exact ⟨rfl, HA.out.st.below0⟩
end Go.Proofs.Ytmhdkjihhdljlaa.X
