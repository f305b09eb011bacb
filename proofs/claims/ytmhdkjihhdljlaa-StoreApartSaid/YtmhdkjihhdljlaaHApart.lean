/- StoreApart: its walk. -/
import Derived.Test.YtmhdkjihhdljlaaStOps
import Derived.IntWalk
import Derived.Deep.DeepCutAuto
import Derived.Deep.CutRange
set_option linter.unusedVariables false
set_option linter.unusedSimpArgs false
namespace Go.Proofs.Ytmhdkjihhdljlaa.X
open Go.RowKit Go.Maps Go.ChangeMaps Go.MapKept Go.Proofs.Ytmhdkjihhdljlaa.Mv Go.Proofs.YtmhdkjihhdljlaaW.PrintWords Go.Proofs.YtmhdkjihhdljlaaW.PrintMore
attribute [local go_sem] fieldV0 fieldV1
/-- The key a, if its value is one. -/
def aE (x : Vl) (d : Int) : Option Ent := if x.kind = 0 then none else some ⟨ka, x, d, false⟩
def aL (x : Vl) (d : Int) : List Ent := if x.kind = 0 then [] else [⟨ka, x, d, false⟩]
theorem a_1 (x : Vl) : putE ka x [] = aL x 0 := by
  unfold aL
  by_cases h : x.kind = 0 <;> simp [putE, letE, fndE, insE, h]
theorem a_2 (x : Vl) (d : Int) (hd : 1 ≤ d) : setE ka 0 d true (aL x 0) = aL x d := by
  unfold aL
  by_cases h : x.kind = 0
  · simp [setE, letE, fndE, h]
  · simp [setE, letE, fndE, updE, h, show ¬ d ≤ 0 by omega]
theorem a_3 (x : Vl) (d : Int) : fndE ka (aL x d) = aE x d := by
  unfold aL aE
  by_cases h : x.kind = 0 <;> simp [fndE, h]
/-- What stays: the key a, its count, and the value beside the store. -/
structure AInv (w1 wr : World) (S : Nat → Prop) (g me mc gx bx n nc : Nat) (E : List Ent) (C : ByteArray → Int) (d nv : Int) (x : Vl) (B2 B3 B4 : Option Addr) (m2 m3 m4 e2 e3 e4 : Nat) : Prop where
  st : StoreSt w1 wr S g me mc n nc 0 E C
  fa : fndE ka E = aE x d
  ca : C ka = nv
  cx : wr.heap[gx]? = some (.cells #[.int .u8 x.kind, .string x.s, .slice B2 m2 e2, .slice B3 m3 e3, .slice B4 m4 e4] 26 (0, 0))
  nx : ¬ S gx
  vr : VR wr bx x B2 B3 B4 m2 m3 m4 e2 e3 e4
section
variable {w1 wr w' : World} {S S' : Nat → Prop} {g me mc gx bx n nc n' nc' : Nat} {E E' : List Ent} {C C' : ByteArray → Int} {d nv : Int} {x : Vl} {B2 B3 B4 : Option Addr} {m2 m3 m4 e2 e3 e4 : Nat}
theorem AInv.below (h : AInv w1 wr S g me mc gx bx n nc E C d nv x B2 B3 B4 m2 m3 m4 e2 e3 e4) (hb : Below wr.heap.size wr w') : AInv w1 w' S g me mc gx bx n nc E C d nv x B2 B3 B4 m2 m3 m4 e2 e3 e4 :=
  ⟨h.st.below hb, h.fa, h.ca, (hb.block gx (pwlt h.cx)).trans h.cx, h.nx, h.vr.below hb⟩
theorem AInv.post (h : AInv w1 wr S g me mc gx bx n nc E C d nv x B2 B3 B4 m2 m3 m4 e2 e3 e4) (hp : Post w1 wr w' S g me mc n' nc' 0 E' C' S') (hE : fndE ka E' = fndE ka E) (hC : C' ka = C ka) : AInv w1 w' S' g me mc gx bx n' nc' E' C' d nv x B2 B3 B4 m2 m3 m4 e2 e3 e4 :=
  ⟨hp.st, hE.trans h.fa, hC.trans h.ca, (hp.keep h.cx h.nx).1, (hp.keep h.cx h.nx).2, h.vr.post hp h.st⟩
theorem AInv.purge (h : AInv w1 wr S g me mc gx bx n nc E C d nv x B2 B3 B4 m2 m3 m4 e2 e3 e4) : fndE ka (purgeE E) = fndE ka E := by
  refine f_purge_ne fun e he hk => ?_
  have h1 := h.st.uniq e he
  rw [hk, h.fa] at h1
  unfold aE at h1
  split at h1
  · cases h1
  · cases h1; rfl
theorem AInv.let_ (h : AInv w1 wr S g me mc gx bx n nc E C d nv x B2 B3 B4 m2 m3 m4 e2 e3 e4) : letE ka E = E := by
  unfold letE
  refine List.filter_eq_self.2 fun e he => ?_
  by_cases hk : e.key = ka
  · have h1 := h.st.uniq e he
    rw [hk, h.fa] at h1
    unfold aE at h1
    split at h1
    · cases h1
    · cases h1; simp
  · simp [hk]
theorem AInv.get (h : AInv w1 wr S g me mc gx bx n nc E C d nv x B2 B3 B4 m2 m3 m4 e2 e3 e4) (hx : VFit x) : valE (fndE ka (letE ka E)) = x := by
  rw [h.let_, h.fa]
  unfold aE
  split
  · rename_i h0
    exact (hx.none h0).symm
  · rfl
theorem AInv.due (h : AInv w1 wr S g me mc gx bx n nc E C d nv x B2 B3 B4 m2 m3 m4 e2 e3 e4) (hd : 1 ≤ d) : dueE (fndE ka (letE ka E)) = (if x.kind = 0 then 0 else d) ∧ onE (fndE ka (letE ka E)) = !(x.kind == 0) := by
  rw [h.let_, h.fa]
  unfold aE
  by_cases h0 : x.kind = 0
  · simp [h0, dueE, onE]
  · have hd0 : 0 < d := by omega
    simp [h0, dueE, onE, hd0]
/-- Behind a thing that was done. -/
def AAll (w1 wr : World) (g me mc gx bx n nc : Nat) (d nv : Int) (x : Vl) (B2 B3 B4 : Option Addr) (m2 m3 m4 e2 e3 e4 : Nat) : Prop := ∃ S E C, AInv w1 wr S g me mc gx bx n nc E C d nv x B2 B3 B4 m2 m3 m4 e2 e3 e4
theorem AInv.all (h : AInv w1 wr S g me mc gx bx n nc E C d nv x B2 B3 B4 m2 m3 m4 e2 e3 e4) (h1 : n ≤ n') (h2 : nc ≤ nc') : AAll w1 wr g me mc gx bx n' nc' d nv x B2 B3 B4 m2 m3 m4 e2 e3 e4 :=
  ⟨S, E, C, h.st.mono h1 h2, h.fa, h.ca, h.cx, h.nx, h.vr⟩
end
theorem kba : ka ≠ kb := by simp
set_option maxHeartbeats 4000000 in
set_option maxRecDepth 100000 in
theorem StoreApart_walk (y : Vl) (A2 A3 A4 : Option Addr) (n2 n3 n4 c2 c3 c4 : Nat) (due : Int) (A1 : Option Addr) (l : List Op10) (c1 : Nat) (w : World) (hv : VC w y A2 A3 A4 n2 n3 n4 c2 c3 c4) (hd : 0 ≤ due ∧ due ≤ 65535) (hl : kOp.C w A1 l.length l) (hc : l.length ≤ c1) (hok : ∀ o ∈ l, OpOk o) :
    Calls Try.prog 5 #[.agg #[.int .u8 y.kind, .string y.s, .slice A2 n2 c2, .slice A3 n3 c3, .slice A4 n4 c4], .int .u16 due, .slice A1 l.length c1] w fun e w' => e = .returned (.bool true) ∧ Below w.heap.size w w' := by
  have HV := Aside0.mk hv
  have HL := Aside0.mk hl
  have HOK := Aside0.mk hok
  have HC := Aside0.mk hc
  clear hl hok hc hv
  obtain ⟨x, hx⟩ : ∃ x, fitV y = x := ⟨_, rfl⟩
  have HX := Aside0.mk hx
  have HF := Aside0.mk (show VFit x by rw [← hx]; exact (fit_eq y).2)
  clear hx
  go_enter Try.func5, Try.ntmps5
  go_wp2_with fail
  obtain ⟨w1, hw1, HB1, HC1⟩ := named_alloc w #[.int .u8 y.kind, .string y.s, .slice A2 n2 c2, .slice A3 n3 c3, .slice A4 n4 c4] 26
  obtain ⟨gv, hgv⟩ : ∃ q, w.heap.size = q := ⟨_, rfl⟩
  rw [hgv] at HC1
  rw [hw1, hgv]
  clear hw1 hgv
  refine (shown_true w1).mono ?_
  rintro e w3 ⟨rfl, HB3⟩
  go_wp2_with fail
  refine (s_new HB3.out).mono ?_
  rintro e w4 ⟨g, me, mc, S4, rfl, H4, HN4, HB4⟩
  have HBB := Aside0.mk (H4.out.below0)
  have HV4 := Aside0.mk ((HV.out.below HB1.out).below HBB.out)
  have HC14 := Aside0.mk ((HBB.out.block gv (pwlt HC1.out)).trans HC1.out)
  obtain ⟨a0, a1, a2, a3, a4⟩ := cells5 HC14.out
  go_wp2_with fail
  refine (fit_any y x HX.out HV4.out).mono ?_
  rintro e w5 ⟨B2, B3, B4, m2, m3, m4, e2, e3, e4, rfl, HR5, HB5⟩
  clear a0 a1 a2 a3 a4
  have H5 := Aside0.mk (H4.out.below HB5.out)
  obtain ⟨w6, hw6, HB6, HC6⟩ := named_alloc w5 #[.int .u8 x.kind, .string x.s, .slice B2 m2 e2, .slice B3 m3 e3, .slice B4 m4 e4] 26
  have H6 := Aside0.mk (H5.out.below HB6.out)
  have HR6 := Aside0.mk (HR5.out.below HB6.out)
  have HNX := Aside0.mk (show ¬ S4 w5.heap.size from fun h => by have := (H5.out.in_ _ h).2; omega)
  obtain ⟨gx, hgx⟩ : ∃ q, w5.heap.size = q := ⟨_, rfl⟩
  rw [hgx] at HC6 HNX
  obtain ⟨q0, q1, q2, q3, q4⟩ := cells5 HC6.out
  go_wp2_with fail
  clear q0 q1 q2 q3 q4 hw6 hgx
  refine (g_put ka (by decide) (by decide) (by decide) x HF.out (aL x 0) (a_1 x) _ rfl HR6.out.vc H6.out).mono ?_
  rintro e w7 ⟨rfl, S7, H7⟩
  obtain ⟨hc7, hn7⟩ := H7.out.keep HC6.out HNX.out
  have HC7 := Aside0.mk hc7
  have HN7 := Aside0.mk hn7
  have HR7 := Aside0.mk (HR6.out.post H7.out H6.out)
  clear hc7 hn7
  have hd0 := hd.1
  have hd1 := hd.2
  go_wp2_with fail
  obtain ⟨d, hdd⟩ : ∃ d, 1 + due = d := ⟨_, rfl⟩
  have HD := Aside0.mk (show 1 ≤ d ∧ d ≤ 65536 by omega)
  have HDD := Aside0.mk hdd
  rw [hdd]
  clear hdd
  obtain ⟨C8, hC8⟩ : ∃ C, setC ka (aL x 0) (putC ka x [] fun x => 0) = C := ⟨_, rfl⟩
  obtain ⟨r8, hr8⟩ : ∃ r, (fndE ka (letE ka (aL x 0))).isSome = r := ⟨_, rfl⟩
  refine (t_set ka (by decide) (by decide) d true r8 hr8 (aL x d) (a_2 x d HD.out.1) C8 hC8 H7.out.st).mono ?_
  rintro e w8 ⟨rfl, S8, H8⟩
  obtain ⟨hc8, hn8⟩ := H8.out.keep HC7.out HN7.out
  have HC8 := Aside0.mk hc8
  have HN8 := Aside0.mk hn8
  have HR8 := Aside0.mk (HR7.out.post H8.out H7.out.st)
  clear hc8 hn8 hC8 hr8
  go_wp2_with fail
  refine (s_version ka (by decide) H8.out.st).mono ?_
  rintro e w9 ⟨rfl, hw9⟩
  subst hw9
  obtain ⟨nv, hnv⟩ : ∃ n, C8 ka = n := ⟨_, rfl⟩
  have HNV := Aside0.mk hnv
  rw [hnv]
  clear hnv
  go_wp2
  obtain ⟨bx, hbx⟩ : ∃ q, w4.heap.size = q := ⟨_, rfl⟩
  rw [hbx] at HR8
  have HA8 := Aside0.mk (show AInv w1 w9 S8 g me mc gx bx 1 2 (aL x d) C8 d nv x B2 B3 B4 m2 m3 m4 e2 e3 e4 from ⟨H8.out.st, a_3 x d, HNV.out, HC8.out, HN8.out, HR8.out⟩)
  go_loopw [11] (fun v11 wr => ∃ i : Nat, v11 = .int .i64 i ∧ i ≤ 40 ∧ i ≤ l.length ∧ Aside0 (AAll w1 wr g me mc gx bx (i + 1) (i + 2) d nv x B2 B3 B4 m2 m3 m4 e2 e3 e4)) (fun v11 _ => 40 - (match v11 with | .int _ i => i.toNat | _ => 0))
  case atStart => exact ⟨0, rfl, by omega, by omega, ⟨HA8.out.all (by omega) (by omega)⟩⟩
  case round =>
    clear H4 H5 H6 H7 H8 HC6 HC7 HC8 HN7 HN8 HNX HN4 HB5 HB6 HR5 HR6 HR7 HR8 HV4 HC14 HBB HA8 HB4 HB3 HV HX hbx
    obtain ⟨i, rfl, hi, hil, HAA⟩ := hrel
    obtain ⟨S, E, C, hA⟩ := HAA.out
    have HA := Aside0.mk hA
    clear hA HAA
    by_cases hlt : i < l.length ∧ i < 40
    · obtain ⟨hl1, hl2⟩ := hlt
      have hI1 : (i : Int) < l.length := by omega
      have hI2 : (i : Int) < 40 := by omega
      obtain ⟨ad, p, D2, D3, D4, o2, o3, o4, f2, f3, f4, e0, hp, hvo, k0, k1, k2, k3, k4, k5, k6, k7, k8⟩ := op_cells (Kd.C_below (Kd.C_below HL.out HB1.out) HA.out.st.below0) hl1
      subst e0
      have hon := HOK.out _ (List.getElem_mem hl1)
      rw [show l[i] = l.getD i op0 by rw [List.getD_eq_getElem?_getD, List.getElem?_eq_getElem hl1]; rfl] at hon
      obtain ⟨o, ho⟩ : ∃ o, l.getD i op0 = o := ⟨_, rfl⟩
      rw [ho] at hvo k0 k1 k2 k3 k7 k8 hon
      obtain ⟨ok_, okey, ov, on_, oon⟩ := o
      simp only at hvo k0 k1 k2 k3 k7 k8
      have hk0 := hon.kind.1
      have hk1 := hon.kind.2
      simp only at hk0 hk1
      have HVO := Aside0.mk hvo
      clear ho hon hvo
      go_upto_block 2 with (fail)
      obtain ⟨w10, hw10, HB10, HC10⟩ := named_alloc wr #[.int .u8 ok_, .string okey, .int .u8 ov.kind, .string ov.s, .slice D2 o2 f2, .slice D3 o3 f3, .slice D4 o4 f4, .int .i64 on_, .bool oon] 42
      have HA10 := Aside0.mk (HA.out.below HB10.out)
      have HVO10 := Aside0.mk (HVO.out.below HB10.out)
      obtain ⟨go, hgo⟩ : ∃ q, wr.heap.size = q := ⟨_, rfl⟩
      rw [hgo] at HC10
      rw [hw10, hgo]
      obtain ⟨r0, r1, r2, r3, r4, r5, r6, r7, r8⟩ := cells9 HC10.out
      clear hw10 hgo k0 k1 k2 k3 k4 k5 k6 k7 k8 HA HVO hp
      go_cut [52, 58, 63, 71, 76, 80] (fun _ _ _ _ _ _ wx => AAll w1 wx g me mc gx bx (i + 2) (i + 3) d nv x B2 B3 B4 m2 m3 m4 e2 e3 e4)
      case first =>
        have hk8 : ok_ % 8 = 0 ∨ ok_ % 8 = 1 ∨ ok_ % 8 = 2 ∨ ok_ % 8 = 3 ∨ ok_ % 8 = 4 ∨ ok_ % 8 = 5 ∨ ok_ % 8 = 6 ∨ ok_ % 8 = 7 := by omega
        rcases hk8 with hk | hk | hk | hk | hk | hk | hk | hk
        · go_wp2_with fail
          refine (fit_any ov (fitV ov) rfl HVO10.out).mono ?_
          rintro e w11 ⟨Z2, Z3, Z4, y2, y3, y4, z2, z3, z4, rfl, HR11, HB11⟩
          have HA11 := Aside0.mk (HA10.out.below HB11.out)
          have HFO := Aside0.mk (fit_eq ov).2
          obtain ⟨z, hz⟩ : ∃ z, fitV ov = z := ⟨_, rfl⟩
          rw [hz] at HR11 HFO ⊢
          clear hz r0 r1 r2 r3 r4 r5 r6 r7 r8
          go_wp2_with fail
          refine (g_put kb (by decide) (by unfold maxLen; omega) (by unfold maxLen; omega) z HFO.out _ rfl _ rfl HR11.out.vc HA11.out.st).mono ?_
          rintro e w12 ⟨rfl, S12, H12⟩
          have HA12 := Aside0.mk (HA11.out.post H12.out (f_put kba z) (c_put kba z))
          go_wp2_with fail
          go_meet
          exact HA12.out.all (by omega) (by omega)
        · go_wp2_with fail
          refine (fit_any ov (fitV ov) rfl HVO10.out).mono ?_
          rintro e w11 ⟨Z2, Z3, Z4, y2, y3, y4, z2, z3, z4, rfl, HR11, HB11⟩
          have HA11 := Aside0.mk (HA10.out.below HB11.out)
          have HFO := Aside0.mk (fit_eq ov).2
          obtain ⟨z, hz⟩ : ∃ z, fitV ov = z := ⟨_, rfl⟩
          rw [hz] at HR11 HFO ⊢
          clear hz r0 r1 r2 r3 r4 r5 r6 r7 r8
          go_wp2_with fail
          refine (g_put kb (by decide) (by unfold maxLen; omega) (by unfold maxLen; omega) z HFO.out _ rfl _ rfl HR11.out.vc HA11.out.st).mono ?_
          rintro e w12 ⟨rfl, S12, H12⟩
          have HA12 := Aside0.mk (HA11.out.post H12.out (f_put kba z) (c_put kba z))
          go_wp2_with fail
          go_meet
          exact HA12.out.all (by omega) (by omega)
        · go_wp2_with fail
          refine (t_get kb (by decide) _ rfl _ rfl HA10.out.st).mono ?_
          rintro e w11 ⟨Z2, Z3, Z4, z2, z3, z4, S11, rfl, _, _, H11⟩
          have HA11 := Aside0.mk (HA10.out.post H11.out (f_let kba) rfl)
          go_wp2_with fail
          go_meet
          exact HA11.out.all (by omega) (by omega)
        · go_wp2_with fail
          refine (t_set kb (by decide) (by unfold maxLen; omega) on_ oon _ rfl _ rfl _ rfl HA10.out.st).mono ?_
          rintro e w11 ⟨rfl, S11, H11⟩
          have HA11 := Aside0.mk (HA10.out.post H11.out (f_set kba 0 on_ oon) (c_set kba))
          go_wp2_with fail
          go_meet
          exact HA11.out.all (by omega) (by omega)
        · go_wp2_with fail
          refine (t_get kb (by decide) _ rfl _ rfl HA10.out.st).mono ?_
          rintro e w11 ⟨Z2, Z3, Z4, z2, z3, z4, S11, rfl, _, _, H11⟩
          have HA11 := Aside0.mk (HA10.out.post H11.out (f_let kba) rfl)
          go_wp2_with fail
          go_meet
          exact HA11.out.all (by omega) (by omega)
        · go_wp2_with fail
          refine (t_putn kb (by decide) (by unfold maxLen; omega) noneV rfl _ rfl _ rfl _ _ _ _ _ _ _ _ _ _ HA10.out.st).mono ?_
          rintro e w11 ⟨rfl, S11, H11⟩
          have HA11 := Aside0.mk (HA10.out.post H11.out (f_put kba noneV) (c_put kba noneV))
          go_wp2_with fail
          go_meet
          exact HA11.out.all (by omega) (by omega)
        · go_wp2_with fail
          refine (s_purge HA10.out.st).mono ?_
          rintro e w11 ⟨rfl, S11, H11⟩
          have HA11 := Aside0.mk (HA10.out.post H11.out HA10.out.purge rfl)
          go_wp2_with fail
          go_meet
          exact HA11.out.all (by omega) (by omega)
        · go_wp2_with fail
          refine (t_due kb (by decide) _ rfl _ rfl _ rfl HA10.out.st).mono ?_
          rintro e w11 ⟨rfl, S11, H11⟩
          have HA11 := Aside0.mk (HA10.out.post H11.out (f_let kba) rfl)
          go_wp2_with fail
          go_meet
          exact HA11.out.all (by omega) (by omega)
      case rest =>
        clear HA10 HVO10 HC10 HB10 r0 r1 r2 r3 r4 r5 r6 r7 r8
        obtain ⟨S', E', C', hA'⟩ := hcut
        have HA' := Aside0.mk hA'
        clear hA'
        by_cases hk0 : x.kind = 0
        · have hk1 : (x.kind == 0) = true := by simpa using hk0
          have HK1 := Aside0.mk hk1
          have HDU := Aside0.mk (HA'.out.due HD.out.1)
          rw [hk1] at HDU
          have HDU2 := Aside0.mk (show (if x.kind = 0 then (0 : Int) else d) = 0 by simp [hk0])
          clear hk1 hk0
          go_wp2_with fail
          refine (t_due ka (by decide) 0 (HDU.out.1.trans HDU2.out) false HDU.out.2 E' HA'.out.let_ HA'.out.st).mono ?_
          rintro e w13 ⟨rfl, S13, H13⟩
          have HA13 := Aside0.mk (HA'.out.post H13.out rfl rfl)
          obtain ⟨q0, q1, q2, q3, q4⟩ := cells5 HA13.out.cx
          go_wp2_with fail
          have HA13d := Aside0.mk (HA13.out.below (w' := w13.drew) ⟨rfl, rfl, rfl, Nat.le_refl _, fun _ _ => rfl⟩)
          have HG13 := Aside0.mk (HA13d.out.get HF.out)
          have HL13 := Aside0.mk HA13d.out.let_
          go_region_held3 (fun wz => wz.cell? ⟨gx, 0, none⟩ = some (.int .u8 x.kind) ∧ wz.cell? ⟨gx, 1, none⟩ = some (.string x.s) ∧ wz.cell? ⟨gx, 2, none⟩ = some (.slice B2 m2 e2) ∧ wz.cell? ⟨gx, 3, none⟩ = some (.slice B3 m3 e3) ∧ wz.cell? ⟨gx, 4, none⟩ = some (.slice B4 m4 e4)) (first | exact ⟨q0, q1, q2, q3, q4⟩ | exact HC5.out | exact HC6.out) (first
            | (go_at_call 16
               (with_reducible refine (v_get ka (by decide) x HG13.out E' HL13.out HA13d.out.st).mono ?_)
               rintro e w14 ⟨Z2, Z3, Z4, y2, y3, y4, z2, z3, z4, S14, rfl, HR14, H14⟩
               have HA14 := Aside0.mk (HA13d.out.post H14.out rfl rfl)
               have HC5 := Aside0.mk (cells5 HA14.out.cx))
            | (go_at_call 19
               (with_reducible refine (same_any HF.out.vok HR14.out.vc HA14.out.vr.vc rfl).mono ?_)
               rintro e w15 ⟨rfl, HB15⟩
               have HA15 := Aside0.mk (HA14.out.below HB15.out)
               have HC6 := Aside0.mk (cells5 HA15.out.cx)))
          obtain ⟨q0, q1, q2, q3, q4⟩ := HC6.out
          have hk1 := HK1.out
          have hk2 : (x.kind != 0) = !(x.kind == 0) := rfl
          rw [hk1] at hk2
          simp only [Bool.not_true, Bool.not_false] at hk2
          have hdd := HDD.out
          have hd0 := hd.1
          have hd1 := hd.2
          go_wp2_with fail
          refine (s_version ka (by decide) HA15.out.st).mono ?_
          rintro e w16 ⟨rfl, hw16⟩
          subst hw16
          rw [HA15.out.ca]
          have HAL := Aside0.mk (HA15.out.all (n' := i + 1 + 1) (nc' := i + 1 + 2) (by omega) (by omega))
          clear hk1 hk2 hdd hd0 hd1 q0 q1 q2 q3 q4
          go_wp2
          go_roundw
          case rel => exact ⟨i + 1, by simp, by omega, by omega, HAL⟩
          case measure => simp; omega
        · have hk1 : (x.kind == 0) = false := by simpa using hk0
          have HK1 := Aside0.mk hk1
          have HDU := Aside0.mk (HA'.out.due HD.out.1)
          rw [hk1] at HDU
          have HDU2 := Aside0.mk (show (if x.kind = 0 then (0 : Int) else d) = d by simp [hk0])
          clear hk1 hk0
          go_wp2_with fail
          refine (t_due ka (by decide) d (HDU.out.1.trans HDU2.out) true HDU.out.2 E' HA'.out.let_ HA'.out.st).mono ?_
          rintro e w13 ⟨rfl, S13, H13⟩
          have HA13 := Aside0.mk (HA'.out.post H13.out rfl rfl)
          obtain ⟨q0, q1, q2, q3, q4⟩ := cells5 HA13.out.cx
          go_wp2_with fail
          have HA13d := Aside0.mk (HA13.out.below (w' := w13.drew) ⟨rfl, rfl, rfl, Nat.le_refl _, fun _ _ => rfl⟩)
          have HG13 := Aside0.mk (HA13d.out.get HF.out)
          have HL13 := Aside0.mk HA13d.out.let_
          go_region_held3 (fun wz => wz.cell? ⟨gx, 0, none⟩ = some (.int .u8 x.kind) ∧ wz.cell? ⟨gx, 1, none⟩ = some (.string x.s) ∧ wz.cell? ⟨gx, 2, none⟩ = some (.slice B2 m2 e2) ∧ wz.cell? ⟨gx, 3, none⟩ = some (.slice B3 m3 e3) ∧ wz.cell? ⟨gx, 4, none⟩ = some (.slice B4 m4 e4)) (first | exact ⟨q0, q1, q2, q3, q4⟩ | exact HC5.out | exact HC6.out) (first
            | (go_at_call 16
               (with_reducible refine (v_get ka (by decide) x HG13.out E' HL13.out HA13d.out.st).mono ?_)
               rintro e w14 ⟨Z2, Z3, Z4, y2, y3, y4, z2, z3, z4, S14, rfl, HR14, H14⟩
               have HA14 := Aside0.mk (HA13d.out.post H14.out rfl rfl)
               have HC5 := Aside0.mk (cells5 HA14.out.cx))
            | (go_at_call 19
               (with_reducible refine (same_any HF.out.vok HR14.out.vc HA14.out.vr.vc rfl).mono ?_)
               rintro e w15 ⟨rfl, HB15⟩
               have HA15 := Aside0.mk (HA14.out.below HB15.out)
               have HC6 := Aside0.mk (cells5 HA15.out.cx)))
          obtain ⟨q0, q1, q2, q3, q4⟩ := HC6.out
          have hk1 := HK1.out
          have hk2 : (x.kind != 0) = !(x.kind == 0) := rfl
          rw [hk1] at hk2
          simp only [Bool.not_true, Bool.not_false] at hk2
          have hdd := HDD.out
          have hd0 := hd.1
          have hd1 := hd.2
          go_wp2_with fail
          refine (s_version ka (by decide) HA15.out.st).mono ?_
          rintro e w16 ⟨rfl, hw16⟩
          subst hw16
          rw [HA15.out.ca]
          have HAL := Aside0.mk (HA15.out.all (n' := i + 1 + 1) (nc' := i + 1 + 2) (by omega) (by omega))
          clear hk1 hk2 hdd hd0 hd1 q0 q1 q2 q3 q4
          go_wp2
          go_roundw
          case rel => exact ⟨i + 1, by simp, by omega, by omega, HAL⟩
          case measure => simp; omega
    · have hcs : ¬ ((i : Int) < l.length) ∨ ((i : Int) < l.length ∧ ¬ ((i : Int) < 40)) := by omega
      rcases hcs with hc9 | ⟨hc8, hc9⟩
      · go_wp2
        go_ret
        exact ⟨rfl, below_then HB1.out HB1.out.size HA.out.st.below0⟩
      · go_wp2
        go_ret
        exact ⟨rfl, below_then HB1.out HB1.out.size HA.out.st.below0⟩
end Go.Proofs.Ytmhdkjihhdljlaa.X
