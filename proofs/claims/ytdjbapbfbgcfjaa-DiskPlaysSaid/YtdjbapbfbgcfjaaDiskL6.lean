/- The walk of DiskPlays. -/
import Derived.Test.YtdjbapbfbgcfjaaRefH
import Derived.Deep.RegionHeld3
set_option linter.unusedVariables false
set_option linter.unusedSimpArgs false
namespace Go.Proofs.Ytdjbapbfbgcfjaa
open Go.RowKit Go.Maps Go.ChangeMaps Go.MapKept Mv Go.Proofs.YtdjbapbfbgcfjaaW.PrintWords

/-- Something that is done. -/
structure POp where
  kind : Int
  a : ByteArray
  c : ByteArray
  b : List Int
  n : Int
abbrev kOp : Kd POp := Kd.iso (Kd.pair U8 (Kd.pair Kd.string (Kd.pair Kd.string (Kd.pair Bs (Kd.int .i64))))) (fun x => (x.kind, x.a, x.c, x.b, x.n))
theorem op_K {w : World} {x : POp} {cs : List Value} (h : kOp.K w x cs) : ∃ A c, cs = [.int .u8 x.kind, .string x.a, .string x.c, .slice A x.b.length c, .int .i64 x.n] ∧ x.b.length ≤ c ∧ U8.C w A x.b.length x.b := by
  obtain ⟨_, _, rfl, rfl, ⟨_, _, rfl, rfl, ⟨_, _, rfl, rfl, ⟨_, _, rfl, ⟨A, c, rfl, h1, h2⟩, rfl⟩⟩⟩⟩ := h
  exact ⟨A, c, rfl, h1, h2⟩
theorem ops_at {w : World} {A : Option Addr} {l : List POp} (h : kOp.C w A l.length l) (k : Nat) (x : POp) (hx : l[k]? = some x) :
    ∃ ad Ab cb, A = some ad ∧ w.cell? (ad.add (k * 5)) = some (.int .u8 x.kind) ∧ w.cell? (ad.add (k * 5 + 1)) = some (.string x.a) ∧ w.cell? (ad.add (k * 5 + 2)) = some (.string x.c) ∧ w.cell? (ad.add (k * 5 + 3)) = some (.slice Ab x.b.length cb) ∧ w.cell? (ad.add (k * 5 + 4)) = some (.int .i64 x.n) ∧ x.b.length ≤ cb ∧ U8.C w Ab x.b.length x.b := by
  obtain ⟨hl, hm, hr⟩ := h
  have hk := (List.getElem?_eq_some_iff.1 hx).1
  obtain ⟨ad, e, hr⟩ := hr (by omega)
  obtain ⟨cs, hlen, hK, hc⟩ := hr k x hx
  obtain ⟨Ab, cb, rfl, h1, h2⟩ := op_K hK
  have hsz : kOp.sz = 5 := rfl
  rw [hsz] at hc
  exact ⟨ad, Ab, cb, e, hc 0 _ rfl, hc 1 _ rfl, hc 2 _ rfl, hc 3 _ rfl, hc 4 _ rfl, h1, h2⟩

theorem small8 (s : ByteArray) : (s.extract 0 8).size ≤ maxLen := by
  rw [ByteArray.size_extract]
  unfold maxLen
  omega
theorem names_cells (w6 : World) (na' nc' : ByteArray) : ∀ (j : Nat), j < 4 → na'.size ≤ maxLen → nc'.size ≤ maxLen → ∃ sj : ByteArray, sj.size ≤ maxLen ∧ (w6.alloc (.cells #[.string na', .string nc', .string tmp, .string users] 9)).cell? ⟨w6.heap.size, j, none⟩ = some (.string sj) := fun j hj h1 h2 => by
  rcases j with _ | _ | _ | _ | j
  · exact ⟨na', h1, cell_lit w6 _ _ 0 rfl⟩
  · exact ⟨nc', h2, cell_lit w6 _ _ 1 rfl⟩
  · exact ⟨tmp, by decide, cell_lit w6 _ _ 2 rfl⟩
  · exact ⟨users, by decide, cell_lit w6 _ _ 3 rfl⟩
  · omega
def PlaysRel (w1 : World) (g r n : Nat) (i : Value) (wr : World) : Prop :=
  ∃ (k : Nat) (F : Lit → Option (List Int × Bool)), i = .int .i64 k ∧ k ≤ n ∧ k ≤ 50 ∧ Two (fun _ => False) w1 w1 wr g r (3 * k) (2 * k) F F
theorem C_oldO {w0 w : World} {A : Option Addr} {l : List POp} (h : kOp.C w0 A l.length l) (hb : Below w0.heap.size w0 w) : kOp.C w A l.length l := Kd.C_below h hb

set_option maxRecDepth 100000 in
set_option maxHeartbeats 20000000 in
theorem plays_row (A : Option Addr) (c : Nat) (l : List POp) (w : World) (h : kOp.C w A l.length l) (hc : l.length ≤ c) (hok : ∀ x ∈ l, (Lit.int .u8 x.kind).wf = true ∧ x.a.size ≤ maxLen ∧ x.c.size ≤ maxLen ∧ (Lit.int .i64 x.n).wf = true) :
    Calls Try.prog 3 #[.slice A l.length c] w fun e w' => e = .returned (.bool true) ∧ Below w.heap.size w w' := by
  have H := hide h
  have HK := hide hok
  clear h hok
  go_enter Try.func3, Try.ntmps3
  go_wp2_with fail
  refine (shown_any _).mono ?_
  rintro e w1 ⟨rfl, hb⟩
  have B1 := hide hb
  clear hb
  go_wp2_with fail
  refine (new_any _).mono ?_
  rintro e w2 ⟨g, rfl, hd, hb⟩
  have T2 := hide (Two.start (Own.new hd hb))
  clear hd hb
  go_wp2_with fail
  go_loopw [6] (fun i wr => PlaysRel w1 g w2.heap.size l.length i wr) (fun i _ => l.length - (intOf i).toNat)
  case atStart => exact ⟨0, _, rfl, by omega, by omega, T2.out⟩
  case round =>
    obtain ⟨k, F, rfl, hk1, hk2, hT⟩ := hrel
    have HT := hide hT
    have BR := hide (B1.out.trans (hT.bel.mono B1.out.size))
    clear hT
    by_cases hlt : k < l.length
    · by_cases hlt2 : k < 50
      · obtain ⟨x, hx⟩ : ∃ x, l[k]? = some x := ⟨_, List.getElem?_eq_getElem hlt⟩
        obtain ⟨ad, Ab, cb, rfl, p0, p1, p2, p3, p4, pc, pr⟩ := ops_at H.out k x hx
        rw [add_field _ _ 1 (by omega)] at p1
        rw [add_field _ _ 2 (by omega)] at p2
        rw [add_field _ _ 3 (by omega)] at p3
        rw [add_field _ _ 4 (by omega)] at p4
        have PR := hide pr
        have p0 := pw_cell_below BR.out p0
        have p1 := pw_cell_below BR.out p1
        have p2 := pw_cell_below BR.out p2
        have p3 := pw_cell_below BR.out p3
        have p4 := pw_cell_below BR.out p4
        have hxm : x ∈ l := List.mem_of_getElem? hx
        obtain ⟨y0, y1, y2, y3⟩ := HK.out x hxm
        have y0 := bounds_u8 y0
        have y3 := bounds_i64 y3
        obtain ⟨y0a, y0b⟩ := y0
        obtain ⟨y3a, y3b⟩ := y3
        clear hx hxm pr
        have G0 := hide (HT.out.guard (.cells #[.int .u8 x.kind, .string x.a, .string x.c, .slice Ab x.b.length cb, .int .i64 x.n] 32))
        have o0 : (wr.alloc (.cells #[.int .u8 x.kind, .string x.a, .string x.c, .slice Ab x.b.length cb, .int .i64 x.n] 32)).cell? ⟨wr.heap.size, 0, none⟩ = _ := cell_lit wr _ _ 0 rfl
        have o1 : (wr.alloc (.cells #[.int .u8 x.kind, .string x.a, .string x.c, .slice Ab x.b.length cb, .int .i64 x.n] 32)).cell? ⟨wr.heap.size, 1, none⟩ = _ := cell_lit wr _ _ 1 rfl
        have o2 : (wr.alloc (.cells #[.int .u8 x.kind, .string x.a, .string x.c, .slice Ab x.b.length cb, .int .i64 x.n] 32)).cell? ⟨wr.heap.size, 2, none⟩ = _ := cell_lit wr _ _ 2 rfl
        have o3 : (wr.alloc (.cells #[.int .u8 x.kind, .string x.a, .string x.c, .slice Ab x.b.length cb, .int .i64 x.n] 32)).cell? ⟨wr.heap.size, 3, none⟩ = _ := cell_lit wr _ _ 3 rfl
        have o4 : (wr.alloc (.cells #[.int .u8 x.kind, .string x.a, .string x.c, .slice Ab x.b.length cb, .int .i64 x.n] 32)).cell? ⟨wr.heap.size, 4, none⟩ = _ := cell_lit wr _ _ 4 rfl
        go_wp2_with fail
        clear p0 p1 p2 p3 p4
        generalize wr.alloc (.cells #[.int .u8 x.kind, .string x.a, .string x.c, .slice Ab x.b.length cb, .int .i64 x.n] 32) = wb at G0 o0 o1 o2 o3 o4 ⊢
        have O3 := hide o3
        have O4 := hide o4
        refine (name_any x.a _ y1).mono ?_
        rintro e w' ⟨rfl, rfl⟩
        go_wp2_with fail
        refine (name_any x.c _ y2).mono ?_
        rintro e w' ⟨rfl, rfl⟩
        obtain ⟨na', hna⟩ : ∃ a, a = x.a.extract 0 8 := ⟨_, rfl⟩
        obtain ⟨nc', hnc⟩ : ∃ a, a = x.c.extract 0 8 := ⟨_, rfl⟩
        have sa : na'.size ≤ maxLen := by rw [hna]; exact small8 _
        have sc : nc'.size ≤ maxLen := by rw [hnc]; exact small8 _
        rw [← hna, ← hnc]
        clear hna hnc
        have hl2 : 3 * k + 2 < maxLen := by unfold maxLen; omega
        have hl3 : 3 * k + 1 + 2 < maxLen := by unfold maxLen; omega
        have hl4 : 3 * k + 3 + 2 < maxLen := by unfold maxLen; omega
        have hq7 : x.kind % 7 = 2 ∨ x.kind % 7 = 3 ∨ x.kind % 7 = 4 ∨ x.kind % 7 = 5 ∨ x.kind % 7 = 6 ∨ (x.kind % 7 ≠ 2 ∧ x.kind % 7 ≠ 3 ∧ x.kind % 7 ≠ 4 ∧ x.kind % 7 ≠ 5 ∧ x.kind % 7 ≠ 6) := by omega
        rcases hq7 with hq7 | hq7 | hq7 | hq7 | hq7 | hq7
        · go_wp2_with fail
          refine (t_sync G0.out hl2 (by omega) B1.out na' sa).mono ?_
          generalize hqq : (if (F (nm na')).isSome = true then (0 : Int) else 2) = q
          have HQ := hide hqq
          clear hqq
          rintro e w5 ⟨rfl, h5⟩
          have G5 := hide h5
          clear h5
          go_wp2_with fail
          refine (t_rsync G5.out hl3 (by omega) B1.out na').mono ?_
          rw [HQ.out]
          rintro e w6 ⟨rfl, h6⟩
          have G6 := hide (h6.forget.mono (n' := 3 * (k + 1)) (m' := 2 * (k + 1)) (by omega) (by omega))
          clear h6 G5 G0
          generalize syncF F (nm na') = F6 at G6 ⊢
          go_wp2_with fail
          have G7 := hide (G6.out.below ((Below.refl _ _).alloc (Nat.le_refl _) (.cells #[.string na', .string nc', .string tmp, .string users] 9)))
          have N7 := hide (names_cells w6 na' nc')
          have Z7 := hide (show (w6.alloc (.cells #[.string na', .string nc', .string tmp, .string users] 9)).heap.size = w6.heap.size + 1 by simp)
          have e7 : w6.alloc (.cells #[.string na', .string nc', .string tmp, .string users] 9) = w6.alloc (.cells #[.string na', .string nc', .string ⟨#[116, 109, 112]⟩, .string ⟨#[117, 115, 101, 114, 115]⟩] 9) := rfl
          rw [e7] at G7 N7 Z7
          clear e7
          generalize w6.alloc (.cells #[.string na', .string nc', .string ⟨#[116, 109, 112]⟩, .string ⟨#[117, 115, 101, 114, 115]⟩] 9) = w7 at G7 N7 Z7 ⊢
          go_loopw [15] (fun i wx => ∃ j : Nat, i = .int .i64 j ∧ j ≤ 4 ∧ Below w7.heap.size w7 wx) (fun i _ => 4 - (intOf i).toNat)
          case atStart => exact ⟨0, rfl, by omega, Below.refl _ _⟩
          case round =>
            obtain ⟨j, rfl, hj, hbx⟩ := hrel
            have GX := hide (G7.out.below hbx)
            have BX := hide hbx
            clear hbx
            by_cases hj4 : j < 4
            · obtain ⟨sj, hsj, hcj⟩ := N7.out j hj4 sa sc
              have hcj' := pw_cell_below BX.out hcj
              clear hcj
              go_wp2_with fail
              refine (t_read GX.out (by unfold maxLen; omega) (by omega) B1.out sj hsj).mono ?_
              rintro e wA ⟨A1, c1, rfl, h1, hb1⟩
              have GA := hide (GX.out.below hb1)
              have BA := hide (BX.out.trans (hb1.mono BX.out.size))
              have C1 := hide h1
              have hcA := pw_cell_below hb1 hcj'
              clear h1 hb1 hcj'
              go_wp2_with fail
              refine (t_rread GA.out (by unfold maxLen; omega) (by omega) B1.out sj).mono ?_
              rintro e wB ⟨A2, c2, rfl, h2, hb2⟩
              have GB := hide (GA.out.below hb2)
              have BB := hide (BA.out.trans (hb2.mono BA.out.size))
              have k1 := str_C (c := c1) (C_below' (w0 := wB) C1.out hb2)
              have k2 := str_C (c := c2) h2
              clear h2 hb2 hcA
              go_wp2
              go_roundw
              case rel => exact ⟨j + 1, by simp, by omega, BB.out⟩
              case measure =>
                show 4 - ((j : Int) + 1).toNat < 4 - (j : Int).toNat
                omega
            · go_wp2
              go_roundw
              case rel => exact ⟨k + 1, F6, by simp, by omega, by omega, GX.out⟩
              case measure =>
                show l.length - ((k : Int) + 1).toNat < l.length - (k : Int).toNat
                omega
        · go_wp2_with fail
          refine (t_rename G0.out hl2 (by omega) B1.out na' nc' sa sc).mono ?_
          generalize hqq : (if (F (nm na')).isSome = true then (0 : Int) else 2) = q
          have HQ := hide hqq
          clear hqq
          rintro e w5 ⟨rfl, h5⟩
          have G5 := hide h5
          clear h5
          go_wp2_with fail
          refine (t_rrename G5.out hl3 (by omega) B1.out na' nc').mono ?_
          rw [HQ.out]
          rintro e w6 ⟨rfl, h6⟩
          have G6 := hide (h6.forget.mono (n' := 3 * (k + 1)) (m' := 2 * (k + 1)) (by omega) (by omega))
          clear h6 G5 G0
          generalize renF F (nm na') (nm nc') = F6 at G6 ⊢
          go_wp2_with fail
          have G7 := hide (G6.out.below ((Below.refl _ _).alloc (Nat.le_refl _) (.cells #[.string na', .string nc', .string tmp, .string users] 9)))
          have N7 := hide (names_cells w6 na' nc')
          have Z7 := hide (show (w6.alloc (.cells #[.string na', .string nc', .string tmp, .string users] 9)).heap.size = w6.heap.size + 1 by simp)
          have e7 : w6.alloc (.cells #[.string na', .string nc', .string tmp, .string users] 9) = w6.alloc (.cells #[.string na', .string nc', .string ⟨#[116, 109, 112]⟩, .string ⟨#[117, 115, 101, 114, 115]⟩] 9) := rfl
          rw [e7] at G7 N7 Z7
          clear e7
          generalize w6.alloc (.cells #[.string na', .string nc', .string ⟨#[116, 109, 112]⟩, .string ⟨#[117, 115, 101, 114, 115]⟩] 9) = w7 at G7 N7 Z7 ⊢
          go_loopw [15] (fun i wx => ∃ j : Nat, i = .int .i64 j ∧ j ≤ 4 ∧ Below w7.heap.size w7 wx) (fun i _ => 4 - (intOf i).toNat)
          case atStart => exact ⟨0, rfl, by omega, Below.refl _ _⟩
          case round =>
            obtain ⟨j, rfl, hj, hbx⟩ := hrel
            have GX := hide (G7.out.below hbx)
            have BX := hide hbx
            clear hbx
            by_cases hj4 : j < 4
            · obtain ⟨sj, hsj, hcj⟩ := N7.out j hj4 sa sc
              have hcj' := pw_cell_below BX.out hcj
              clear hcj
              go_wp2_with fail
              refine (t_read GX.out (by unfold maxLen; omega) (by omega) B1.out sj hsj).mono ?_
              rintro e wA ⟨A1, c1, rfl, h1, hb1⟩
              have GA := hide (GX.out.below hb1)
              have BA := hide (BX.out.trans (hb1.mono BX.out.size))
              have C1 := hide h1
              have hcA := pw_cell_below hb1 hcj'
              clear h1 hb1 hcj'
              go_wp2_with fail
              refine (t_rread GA.out (by unfold maxLen; omega) (by omega) B1.out sj).mono ?_
              rintro e wB ⟨A2, c2, rfl, h2, hb2⟩
              have GB := hide (GA.out.below hb2)
              have BB := hide (BA.out.trans (hb2.mono BA.out.size))
              have k1 := str_C (c := c1) (C_below' (w0 := wB) C1.out hb2)
              have k2 := str_C (c := c2) h2
              clear h2 hb2 hcA
              go_wp2
              go_roundw
              case rel => exact ⟨j + 1, by simp, by omega, BB.out⟩
              case measure =>
                show 4 - ((j : Int) + 1).toNat < 4 - (j : Int).toNat
                omega
            · go_wp2
              go_roundw
              case rel => exact ⟨k + 1, F6, by simp, by omega, by omega, GX.out⟩
              case measure =>
                show l.length - ((k : Int) + 1).toNat < l.length - (k : Int).toNat
                omega
        · go_wp2_with fail
          refine (t_load G0.out hl2 (by omega) B1.out).mono ?_
          rintro e w5 ⟨A1, c1, rfl, h5, hb5⟩
          have G5 := hide (G0.out.below hb5)
          have C5 := hide h5
          clear h5 hb5
          go_wp2_with fail
          refine (t_rread G5.out hl2 (by omega) B1.out users).mono ?_
          rintro e w6 ⟨A2, c2, rfl, h6, hb6⟩
          have G6 := hide ((G5.out.below hb6).forget.mono (n' := 3 * (k + 1)) (m' := 2 * (k + 1)) (by omega) (by omega))
          have k5 := str_C (c := c1) (C_below' (w0 := w6) C5.out hb6)
          have k6 := str_C (c := c2) h6
          clear h6 hb6 G5 G0
          obtain ⟨F6, hF6⟩ : ∃ F6, F6 = F := ⟨_, rfl⟩
          rw [← hF6] at G6
          clear hF6
          go_wp2_with fail
          have G7 := hide (G6.out.below ((Below.refl _ _).alloc (Nat.le_refl _) (.cells #[.string na', .string nc', .string tmp, .string users] 9)))
          have N7 := hide (names_cells w6 na' nc')
          have Z7 := hide (show (w6.alloc (.cells #[.string na', .string nc', .string tmp, .string users] 9)).heap.size = w6.heap.size + 1 by simp)
          have e7 : w6.alloc (.cells #[.string na', .string nc', .string tmp, .string users] 9) = w6.alloc (.cells #[.string na', .string nc', .string ⟨#[116, 109, 112]⟩, .string ⟨#[117, 115, 101, 114, 115]⟩] 9) := rfl
          rw [e7] at G7 N7 Z7
          clear e7
          generalize w6.alloc (.cells #[.string na', .string nc', .string ⟨#[116, 109, 112]⟩, .string ⟨#[117, 115, 101, 114, 115]⟩] 9) = w7 at G7 N7 Z7 ⊢
          go_loopw [15] (fun i wx => ∃ j : Nat, i = .int .i64 j ∧ j ≤ 4 ∧ Below w7.heap.size w7 wx) (fun i _ => 4 - (intOf i).toNat)
          case atStart => exact ⟨0, rfl, by omega, Below.refl _ _⟩
          case round =>
            obtain ⟨j, rfl, hj, hbx⟩ := hrel
            have GX := hide (G7.out.below hbx)
            have BX := hide hbx
            clear hbx
            by_cases hj4 : j < 4
            · obtain ⟨sj, hsj, hcj⟩ := N7.out j hj4 sa sc
              have hcj' := pw_cell_below BX.out hcj
              clear hcj
              go_wp2_with fail
              refine (t_read GX.out (by unfold maxLen; omega) (by omega) B1.out sj hsj).mono ?_
              rintro e wA ⟨A1, c1, rfl, h1, hb1⟩
              have GA := hide (GX.out.below hb1)
              have BA := hide (BX.out.trans (hb1.mono BX.out.size))
              have C1 := hide h1
              have hcA := pw_cell_below hb1 hcj'
              clear h1 hb1 hcj'
              go_wp2_with fail
              refine (t_rread GA.out (by unfold maxLen; omega) (by omega) B1.out sj).mono ?_
              rintro e wB ⟨A2, c2, rfl, h2, hb2⟩
              have GB := hide (GA.out.below hb2)
              have BB := hide (BA.out.trans (hb2.mono BA.out.size))
              have k1 := str_C (c := c1) (C_below' (w0 := wB) C1.out hb2)
              have k2 := str_C (c := c2) h2
              clear h2 hb2 hcA
              go_wp2
              go_roundw
              case rel => exact ⟨j + 1, by simp, by omega, BB.out⟩
              case measure =>
                show 4 - ((j : Int) + 1).toNat < 4 - (j : Int).toNat
                omega
            · go_wp2
              go_roundw
              case rel => exact ⟨k + 1, F6, by simp, by omega, by omega, GX.out⟩
              case measure =>
                show l.length - ((k : Int) + 1).toNat < l.length - (k : Int).toNat
                omega
        · go_wp2_with fail
          have i4 := G0.out.kept (a := ⟨wr.heap.size, 4, none⟩) rfl O4.out
          refine (t_crash G0.out hl2 (by omega) B1.out x.n y3a y3b).mono ?_
          rintro e w5 ⟨rfl, h5⟩
          have G5 := hide h5
          have i5 := h5.kept (a := ⟨wr.heap.size, 4, none⟩) rfl O4.out
          clear h5
          go_wp2_with fail
          refine (t_rcrash G5.out hl2 (by omega) B1.out x.n y3a y3b).mono ?_
          rintro e w6 ⟨rfl, h6⟩
          have G6 := hide (h6.forget.mono (n' := 3 * (k + 1)) (m' := 2 * (k + 1)) (by omega) (by omega))
          clear h6 G5 G0 i4 i5
          generalize crashF x.n F = F6 at G6 ⊢
          go_wp2_with fail
          have G7 := hide (G6.out.below ((Below.refl _ _).alloc (Nat.le_refl _) (.cells #[.string na', .string nc', .string tmp, .string users] 9)))
          have N7 := hide (names_cells w6 na' nc')
          have Z7 := hide (show (w6.alloc (.cells #[.string na', .string nc', .string tmp, .string users] 9)).heap.size = w6.heap.size + 1 by simp)
          have e7 : w6.alloc (.cells #[.string na', .string nc', .string tmp, .string users] 9) = w6.alloc (.cells #[.string na', .string nc', .string ⟨#[116, 109, 112]⟩, .string ⟨#[117, 115, 101, 114, 115]⟩] 9) := rfl
          rw [e7] at G7 N7 Z7
          clear e7
          generalize w6.alloc (.cells #[.string na', .string nc', .string ⟨#[116, 109, 112]⟩, .string ⟨#[117, 115, 101, 114, 115]⟩] 9) = w7 at G7 N7 Z7 ⊢
          go_loopw [15] (fun i wx => ∃ j : Nat, i = .int .i64 j ∧ j ≤ 4 ∧ Below w7.heap.size w7 wx) (fun i _ => 4 - (intOf i).toNat)
          case atStart => exact ⟨0, rfl, by omega, Below.refl _ _⟩
          case round =>
            obtain ⟨j, rfl, hj, hbx⟩ := hrel
            have GX := hide (G7.out.below hbx)
            have BX := hide hbx
            clear hbx
            by_cases hj4 : j < 4
            · obtain ⟨sj, hsj, hcj⟩ := N7.out j hj4 sa sc
              have hcj' := pw_cell_below BX.out hcj
              clear hcj
              go_wp2_with fail
              refine (t_read GX.out (by unfold maxLen; omega) (by omega) B1.out sj hsj).mono ?_
              rintro e wA ⟨A1, c1, rfl, h1, hb1⟩
              have GA := hide (GX.out.below hb1)
              have BA := hide (BX.out.trans (hb1.mono BX.out.size))
              have C1 := hide h1
              have hcA := pw_cell_below hb1 hcj'
              clear h1 hb1 hcj'
              go_wp2_with fail
              refine (t_rread GA.out (by unfold maxLen; omega) (by omega) B1.out sj).mono ?_
              rintro e wB ⟨A2, c2, rfl, h2, hb2⟩
              have GB := hide (GA.out.below hb2)
              have BB := hide (BA.out.trans (hb2.mono BA.out.size))
              have k1 := str_C (c := c1) (C_below' (w0 := wB) C1.out hb2)
              have k2 := str_C (c := c2) h2
              clear h2 hb2 hcA
              go_wp2
              go_roundw
              case rel => exact ⟨j + 1, by simp, by omega, BB.out⟩
              case measure =>
                show 4 - ((j : Int) + 1).toNat < 4 - (j : Int).toNat
                omega
            · go_wp2
              go_roundw
              case rel => exact ⟨k + 1, F6, by simp, by omega, by omega, GX.out⟩
              case measure =>
                show l.length - ((k : Int) + 1).toNat < l.length - (k : Int).toNat
                omega
        · have BG0 := hide (B1.out.trans (G0.out.bel.mono B1.out.size))
          have PT := hide (C_takeN PR.out 50)
          have lt50 : (x.b.take 50).length ≤ 65536 := by rw [List.length_take]; omega
          obtain ⟨bb, hbb⟩ : ∃ bb, bb = x.b.take 50 := ⟨_, rfl⟩
          have FE := hide (show ∀ w', Below w.heap.size w w' → Calls Try.prog 20 #[.slice Ab x.b.length cb] w' fun e w2 => e = .returned (.slice Ab bb.length cb) ∧ w2 = w' from fun w' hb => by rw [hbb]; exact few_any Ab x.b cb w' (C_old PR.out hb) pc)
          rw [← hbb] at PT lt50
          clear hbb
          go_wp2_with fail
          have G0d := hide (G0.out.drewN 1)
          have BGd := hide (B1.out.trans (G0d.out.bel.mono B1.out.size))
          go_region_held3 (fun wz => wz.cell? ⟨wr.heap.size, 3, none⟩ = some (.slice Ab x.b.length cb) ∧ wz.cell? ⟨wr.heap.size, 4, none⟩ = some (.int .i64 x.n)) (first | exact ⟨i5, i6⟩ | exact ⟨i3, i4⟩ | exact ⟨o3, o4⟩) (first
            | (go_at_call 20
               first
                 | refine (FE.out _ BG5.out).mono ?_
                 | refine (FE.out _ BGd.out).mono ?_
               rintro e w' ⟨rfl, rfl⟩)
            | (go_at_call 19
               refine (t_save G0d.out hl2 (by omega) B1.out Ab bb cb x.n PT.out lt50).mono ?_
               generalize hqq : (if steps x.n < 3 then (30 : Int) else 0) = q
               have HQ := hide hqq
               clear hqq
               rintro e w5 ⟨rfl, h5⟩
               have G5 := hide h5
               have BG5 := hide (B1.out.trans (h5.bel.mono B1.out.size))
               have i3 := h5.kept (a := ⟨wr.heap.size, 3, none⟩) rfl O3.out
               have i4 := h5.kept (a := ⟨wr.heap.size, 4, none⟩) rfl O4.out
               clear h5)
            | (go_at_call 21
               refine (t_rsave G5.out hl4 (by omega) B1.out Ab bb cb x.n PT.out lt50).mono ?_
               rw [HQ.out]
               rintro e w6 ⟨rfl, h6⟩
               have G6 := hide (h6.forget.mono (n' := 3 * (k + 1)) (m' := 2 * (k + 1)) (by omega) (by omega))
               have i5 := h6.kept (a := ⟨wr.heap.size, 3, none⟩) rfl O3.out
               have i6 := h6.kept (a := ⟨wr.heap.size, 4, none⟩) rfl O4.out
               clear h6))
          all_goals generalize saveF F bb (steps x.n) = F6 at G6 ⊢
          all_goals
            go_wp2_with fail
            have G7 := hide (G6.out.below ((Below.refl _ _).alloc (Nat.le_refl _) (.cells #[.string na', .string nc', .string tmp, .string users] 9)))
            have N7 := hide (names_cells w6 na' nc')
            have Z7 := hide (show (w6.alloc (.cells #[.string na', .string nc', .string tmp, .string users] 9)).heap.size = w6.heap.size + 1 by simp)
            have e7 : w6.alloc (.cells #[.string na', .string nc', .string tmp, .string users] 9) = w6.alloc (.cells #[.string na', .string nc', .string ⟨#[116, 109, 112]⟩, .string ⟨#[117, 115, 101, 114, 115]⟩] 9) := rfl
            rw [e7] at G7 N7 Z7
            clear e7
            generalize w6.alloc (.cells #[.string na', .string nc', .string ⟨#[116, 109, 112]⟩, .string ⟨#[117, 115, 101, 114, 115]⟩] 9) = w7 at G7 N7 Z7 ⊢
            go_loopw [15] (fun i wx => ∃ j : Nat, i = .int .i64 j ∧ j ≤ 4 ∧ Below w7.heap.size w7 wx) (fun i _ => 4 - (intOf i).toNat)
            case atStart => exact ⟨0, rfl, by omega, Below.refl _ _⟩
            case round =>
              obtain ⟨j, rfl, hj, hbx⟩ := hrel
              have GX := hide (G7.out.below hbx)
              have BX := hide hbx
              clear hbx
              by_cases hj4 : j < 4
              · obtain ⟨sj, hsj, hcj⟩ := N7.out j hj4 sa sc
                have hcj' := pw_cell_below BX.out hcj
                clear hcj
                go_wp2_with fail
                refine (t_read GX.out (by unfold maxLen; omega) (by omega) B1.out sj hsj).mono ?_
                rintro e wA ⟨A1, c1, rfl, h1, hb1⟩
                have GA := hide (GX.out.below hb1)
                have BA := hide (BX.out.trans (hb1.mono BX.out.size))
                have C1 := hide h1
                have hcA := pw_cell_below hb1 hcj'
                clear h1 hb1 hcj'
                go_wp2_with fail
                refine (t_rread GA.out (by unfold maxLen; omega) (by omega) B1.out sj).mono ?_
                rintro e wB ⟨A2, c2, rfl, h2, hb2⟩
                have GB := hide (GA.out.below hb2)
                have BB := hide (BA.out.trans (hb2.mono BA.out.size))
                have k1 := str_C (c := c1) (C_below' (w0 := wB) C1.out hb2)
                have k2 := str_C (c := c2) h2
                clear h2 hb2 hcA
                go_wp2
                go_roundw
                case rel => exact ⟨j + 1, by simp, by omega, BB.out⟩
                case measure =>
                  show 4 - ((j : Int) + 1).toNat < 4 - (j : Int).toNat
                  omega
              · go_wp2
                go_roundw
                case rel => exact ⟨k + 1, F6, by simp, by omega, by omega, GX.out⟩
                case measure =>
                  show l.length - ((k : Int) + 1).toNat < l.length - (k : Int).toNat
                  omega
        · obtain ⟨v2, v3, v4, v5, v6⟩ := hq7
          have BG0 := hide (B1.out.trans (G0.out.bel.mono B1.out.size))
          have PT := hide (C_takeN PR.out 50)
          have lt50 : (x.b.take 50).length ≤ 65536 := by rw [List.length_take]; omega
          obtain ⟨bb, hbb⟩ : ∃ bb, bb = x.b.take 50 := ⟨_, rfl⟩
          have FE := hide (show ∀ w', Below w.heap.size w w' → Calls Try.prog 20 #[.slice Ab x.b.length cb] w' fun e w2 => e = .returned (.slice Ab bb.length cb) ∧ w2 = w' from fun w' hb => by rw [hbb]; exact few_any Ab x.b cb w' (C_old PR.out hb) pc)
          rw [← hbb] at PT lt50
          clear hbb
          go_wp2_with fail
          have G0d := hide (G0.out.drewN 1)
          have BGd := hide (B1.out.trans (G0d.out.bel.mono B1.out.size))
          go_region_held3 (fun wz => wz.cell? ⟨wr.heap.size, 3, none⟩ = some (.slice Ab x.b.length cb) ∧ wz.cell? ⟨wr.heap.size, 4, none⟩ = some (.int .i64 x.n)) (first | exact ⟨i5, i6⟩ | exact ⟨i3, i4⟩ | exact ⟨o3, o4⟩) (first
            | (go_at_call 20
               first
                 | refine (FE.out _ BG5.out).mono ?_
                 | refine (FE.out _ BGd.out).mono ?_
               rintro e w' ⟨rfl, rfl⟩)
            | (go_at_call 22
               refine (t_write G0d.out hl2 (by omega) B1.out na' Ab bb cb sa PT.out lt50).mono ?_
               rintro e w5 ⟨rfl, h5⟩
               have G5 := hide h5
               have BG5 := hide (B1.out.trans (h5.bel.mono B1.out.size))
               have i3 := h5.kept (a := ⟨wr.heap.size, 3, none⟩) rfl O3.out
               have i4 := h5.kept (a := ⟨wr.heap.size, 4, none⟩) rfl O4.out
               clear h5)
            | (go_at_call 23
               refine (t_rwrite G5.out hl3 (by omega) B1.out na' Ab bb cb PT.out lt50).mono ?_
               rintro e w6 ⟨rfl, h6⟩
               have G6 := hide (h6.forget.mono (n' := 3 * (k + 1)) (m' := 2 * (k + 1)) (by omega) (by omega))
               have i5 := h6.kept (a := ⟨wr.heap.size, 3, none⟩) rfl O3.out
               have i6 := h6.kept (a := ⟨wr.heap.size, 4, none⟩) rfl O4.out
               clear h6))
          all_goals generalize updF F (nm na') (some (bb, false)) = F6 at G6 ⊢
          all_goals
            go_wp2_with fail
            have G7 := hide (G6.out.below ((Below.refl _ _).alloc (Nat.le_refl _) (.cells #[.string na', .string nc', .string tmp, .string users] 9)))
            have N7 := hide (names_cells w6 na' nc')
            have Z7 := hide (show (w6.alloc (.cells #[.string na', .string nc', .string tmp, .string users] 9)).heap.size = w6.heap.size + 1 by simp)
            have e7 : w6.alloc (.cells #[.string na', .string nc', .string tmp, .string users] 9) = w6.alloc (.cells #[.string na', .string nc', .string ⟨#[116, 109, 112]⟩, .string ⟨#[117, 115, 101, 114, 115]⟩] 9) := rfl
            rw [e7] at G7 N7 Z7
            clear e7
            generalize w6.alloc (.cells #[.string na', .string nc', .string ⟨#[116, 109, 112]⟩, .string ⟨#[117, 115, 101, 114, 115]⟩] 9) = w7 at G7 N7 Z7 ⊢
            go_loopw [15] (fun i wx => ∃ j : Nat, i = .int .i64 j ∧ j ≤ 4 ∧ Below w7.heap.size w7 wx) (fun i _ => 4 - (intOf i).toNat)
            case atStart => exact ⟨0, rfl, by omega, Below.refl _ _⟩
            case round =>
              obtain ⟨j, rfl, hj, hbx⟩ := hrel
              have GX := hide (G7.out.below hbx)
              have BX := hide hbx
              clear hbx
              by_cases hj4 : j < 4
              · obtain ⟨sj, hsj, hcj⟩ := N7.out j hj4 sa sc
                have hcj' := pw_cell_below BX.out hcj
                clear hcj
                go_wp2_with fail
                refine (t_read GX.out (by unfold maxLen; omega) (by omega) B1.out sj hsj).mono ?_
                rintro e wA ⟨A1, c1, rfl, h1, hb1⟩
                have GA := hide (GX.out.below hb1)
                have BA := hide (BX.out.trans (hb1.mono BX.out.size))
                have C1 := hide h1
                have hcA := pw_cell_below hb1 hcj'
                clear h1 hb1 hcj'
                go_wp2_with fail
                refine (t_rread GA.out (by unfold maxLen; omega) (by omega) B1.out sj).mono ?_
                rintro e wB ⟨A2, c2, rfl, h2, hb2⟩
                have GB := hide (GA.out.below hb2)
                have BB := hide (BA.out.trans (hb2.mono BA.out.size))
                have k1 := str_C (c := c1) (C_below' (w0 := wB) C1.out hb2)
                have k2 := str_C (c := c2) h2
                clear h2 hb2 hcA
                go_wp2
                go_roundw
                case rel => exact ⟨j + 1, by simp, by omega, BB.out⟩
                case measure =>
                  show 4 - ((j : Int) + 1).toNat < 4 - (j : Int).toNat
                  omega
              · go_wp2
                go_roundw
                case rel => exact ⟨k + 1, F6, by simp, by omega, by omega, GX.out⟩
                case measure =>
                  show l.length - ((k : Int) + 1).toNat < l.length - (k : Int).toNat
                  omega
      · go_wp2
        go_ret
        exact ⟨rfl, BR.out⟩
    · go_wp2
      go_ret
      exact ⟨rfl, BR.out⟩
end Go.Proofs.Ytdjbapbfbgcfjaa
