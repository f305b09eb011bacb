/- FrameReads: its walk. -/
import Derived.Test.YtmbfapgamcbajaaDoorPReads
import Derived.Test.YtmbfapgamcbajaaDoorPBack
import Derived.Test.YtmbfapgamcbajaaDoorEFShown
import Derived.Deep.RegionLaw
import Derived.IntWalk
import Derived.Test.YtmbfapgamcbajaaDoorWLast
set_option linter.unusedVariables false
set_option linter.unusedSimpArgs false
namespace Go.Proofs.YtmbfapgamcbajaaDoor.X
open Go.RowKit Go.Proofs.YtmbfapgamcbajaaDoorW.PrintWords Go.Proofs.YtmbfapgamcbajaaDoorW.PrintLast

theorem idx_cuts (a0 a1 a2 a3 : Int) (h0 : 0 ≤ a0 ∧ a0 ≤ 65535) (h1 : 0 ≤ a1 ∧ a1 ≤ 65535) (h2 : 0 ≤ a2 ∧ a2 ≤ 65535) (h3 : 0 ≤ a3 ∧ a3 ≤ 65535) (i : Nat) (hi : i < 4) :
    ∃ c : Int, 0 ≤ c ∧ c ≤ 65535 ∧ ∀ w : World, (Instr.index 37 (.agg #[.int .u16 a0, .int .u16 a1, .int .u16 a2, .int .u16 a3]) (.int .i64 (i : Int))).run Tryd.prog w = .ok (.int .u16 c) w := by
  rcases (by omega : i = 0 ∨ i = 1 ∨ i = 2 ∨ i = 3) with rfl | rfl | rfl | rfl
  · exact ⟨a0, h0.1, h0.2, fun _ => by kernel_rfl⟩
  · exact ⟨a1, h1.1, h1.2, fun _ => by kernel_rfl⟩
  · exact ⟨a2, h2.1, h2.2, fun _ => by kernel_rfl⟩
  · exact ⟨a3, h3.1, h3.2, fun _ => by kernel_rfl⟩

/-- Requests stay when a reader is fed. -/
theorem req_fed {w w1 : World} {g b : Nat} {ok : Nat → Prop} {v : Value} {L : List (List ByteArray)} {cs : Array Value} (h : Kd.R kReq 25 w b ok v L) (hg : w.heap[g]? = some (.cells cs 60 (0, 0)))
    (hk : ∀ (k : Nat) (cs : Array Value) (t : TypeId), w.heap[k]? = some (.cells cs t (0, 0)) → t ≠ 5 → k ≠ g → w1.heap[k]? = w.heap[k]?) : Kd.R kReq 25 w1 b ok v L :=
  Kd.R_mono (Kd.R_move (Kd.R_bound h) (fun k hb => by
    obtain ⟨_, _, _, q, hq, cells, hc⟩ := hb
    have hq : q ∈ [25, 9] := hq
    have hq' : q = 25 ∨ q = 9 := by simpa using hq
    refine hk k cells q hc (by rcases hq' with rfl | rfl <;> decide) ?_
    rintro rfl
    rw [hc] at hg
    injection hg with hg
    injection hg with _ hg _
    rcases hq' with rfl | rfl <;> exact absurd hg (by decide))) (fun _ h => h.1)

theorem feed_r (w0 : World) (g : Nat) (A : Option Addr) (b : List Int) (c : Nat) (s : List Int) (bad : Bool) (w : World) (hg : w0.heap.size ≤ g) (hB : Below w0.heap.size w0 w) (hR : RdAt w w0.heap.size g s bad) (hb : BC w A b) (m : Nat) (hm : b.length = m) (hc : m ≤ c) (hl : s.length + m ≤ 1000000)
    (v : Value) (L : List (List ByteArray)) (hL : Kd.R kReq 25 w w0.heap.size (fun _ => True) v L) :
    Calls Tryd.prog 18 #[.pointer (some ⟨g, 0, none⟩), .slice A m c] w fun e w' => e = .returned (.tuple #[]) ∧ Aside0 (RdAt w' w0.heap.size g (s ++ b) bad) ∧ Aside0 (Below w0.heap.size w0 w') ∧ Aside0 (Kd.R kReq 25 w' w0.heap.size (fun _ => True) v L) := by
  subst hm
  refine (feed_any w0 g A b c s bad w hg hB hR hb hc hl).mono ?_
  rintro e w' ⟨rfl, h1, h2, h3⟩
  obtain ⟨u, hu, _⟩ := hR
  exact ⟨rfl, ⟨h1⟩, ⟨h2⟩, ⟨req_fed hL hu h3⟩⟩

/-- One piece is read. -/
theorem piece_any (w0 : World) (hLd : Ld w0) (g : Nat) (b s p : List Int) (bd : Bool) (i j : Nat) (G : List (List ByteArray)) (w : World) (hg : w0.heap.size ≤ g) (hB : Below w0.heap.size w0 w) (hR : RdAt w w0.heap.size g (s ++ p) bd)
    (hlb : b.length ≤ 1500) (inv : RdInv (b.length + 1) (U b) i G (U s) bd) (hij : i ≤ j) (hj : j ≤ b.length) (hp : p = (b.take j).drop i)
    (vg : Value) (hG : Kd.R kReq 25 w w0.heap.size (fun _ => True) vg G) :
    Calls Tryd.prog 19 #[.pointer (some ⟨g, 0, none⟩), .int .i64 2000] w fun e w' => ∃ (A2 : Option Addr) (q2 c2 : Nat) (s2 : List Int) (bd' : Bool) (ee : Int) (L : List (List ByteArray)),
      e = .returned (.tuple #[.slice A2 q2 c2, .int .i64 ee]) ∧ Aside0 (ee = (if bd' = true then 10 else 0)) ∧ (bd = true → ee = 10 ∧ q2 = 0) ∧ Aside0 (L.length = q2)
      ∧ Aside0 (RdAt w' w0.heap.size g s2 bd') ∧ Aside0 (Below w0.heap.size w0 w') ∧ Aside0 (RdInv (b.length + 1) (U b) j (G ++ L) (U s2) bd')
      ∧ Aside0 (Kd.R kReq 25 w' w0.heap.size (fun _ => True) vg G) ∧ Aside0 (ReadsRow (kReq.M w' w0.heap.size (fun k => True ∧ some k ≠ vg.ownBlock)) 1 w' A2 q2 L) := by
  have hl : (s ++ p).length ≤ 3000 := by
    have h1 := inv.len
    rw [U_len] at h1
    rw [List.length_append, hp, List.length_drop, List.length_take]
    omega
  have hUp : U p = ((U b).take j).drop i := by rw [hp, U_drop, U_take]
  have hrow : ∀ {w' : World} {v : Value} {L : List (List ByteArray)} {bs : Nat}, w0.heap.size ≤ bs → Kd.R kReq 25 w' bs (fun k => w.heap.size ≤ k) v L → ∃ (A2 : Option Addr) (c2 : Nat), v = .slice A2 L.length c2 ∧ ReadsRow (kReq.M w' w0.heap.size (fun k => True ∧ some k ≠ vg.ownBlock)) 1 w' A2 L.length L := by
    intro w' v L bs hbs h
    have h1 : Kd.R kReq 25 w' w0.heap.size (fun k => True ∧ some k ≠ vg.ownBlock) v L := Kd.R_mono (Kd.R_lower h hbs) (fun k hk => ⟨trivial, Kd.fresh_ok hG k hk⟩)
    obtain ⟨A2, c2, e1, _, e3⟩ := OwnRow.reads h1.2
    exact ⟨A2, c2, e1, e3.imp_ (Below.refl _ _) (fun _ _ hp => Kd.M_mono _ (fun _ hk => hk.1) hp)⟩
  cases bd with
  | true =>
    refine (reads_bad w0.heap.size g (s ++ p) 2000 (by omega) w hR).mono ?_
    rintro e w' ⟨v, rfl, hv, hR', hB'⟩
    obtain ⟨A2, c2, rfl, h2⟩ := hrow hB.size (Kd.R_mono (ok' := fun k => w.heap.size ≤ k) (Kd.R_bound hv) (fun _ h => h.2.1))
    have hinv := inv_bad inv hij (by rw [U_len]; exact hj)
    refine ⟨A2, 0, c2, s ++ p, true, 10, [], rfl, ⟨rfl⟩, fun _ => ⟨rfl, rfl⟩, ⟨rfl⟩, ⟨hR'⟩, ⟨below_then hB hB.size hB'⟩, ⟨?_⟩, ⟨Kd.R_below hG hB'⟩, ⟨h2⟩⟩
    rw [U_app, hUp, List.append_nil]
    exact hinv
  | false =>
    obtain ⟨L, rest, e, bd', hres, he, hinv⟩ := inv_good (m := 2000) inv hij (by rw [U_len]; exact hj) (by rw [U_len]; omega) (by rw [U_len]; omega)
    rw [← hUp, ← U_app] at hres
    refine (reads_any w0 hLd g (s ++ p) 2000 w hg hB hR (by omega) (by omega) L rest e bd' hres).mono ?_
    rintro x w' ⟨v, rfl, hv, ⟨s2, hs2, _, hR'⟩, hB', hK⟩
    obtain ⟨A2, c2, rfl, h2⟩ := hrow (Nat.le_refl _) hv
    obtain ⟨u, hu, _⟩ := hR
    refine ⟨A2, L.length, c2, s2, bd', e, L, rfl, ⟨he⟩, fun h => (by cases h), ⟨rfl⟩, ⟨hR'⟩, ⟨hB'⟩, ⟨hs2 ▸ hinv⟩, ⟨Kd.R_mono (Kd.R_step (Kd.R_types hG hu (by decide)) (fun i hi hlt => hK.block i hlt hi.2)) (fun _ _ => trivial)⟩, ⟨h2⟩⟩

theorem same_all (w : World) (A B : Option Addr) (n m c d : Nat) (L : List (List ByteArray)) (hn : L.length = n) (hm : L.length = m) (hl : L.length ≤ 1500) (hw : ∀ x ∈ L, x.length ≤ 32) (hA : Kd.C kReq w A L.length L) (hc : n ≤ c) (hB : Kd.C kReq w B L.length L) (hd : m ≤ d) :
    Calls Tryd.prog 21 #[.slice A n c, .slice B m d] w fun e w' => e = .returned (.bool true) ∧ Drawn0 w w' := by
  subst hn hm
  exact tipstafflaw06_same.calls _ A c L B d L true w hA hc hB hd (same_f L (fun z hz => by have := hw z hz; omega) (by omega))
theorem all_q (A : Option Addr) (s : List Int) (c : Nat) (w : World) (hb : BC w A s) (q : Nat) (hq : s.length = q) (hc : q ≤ c) (hl : q ≤ 2000) (hby : Byt s) (G : List (List ByteArray)) (left : Int) (bad : Bool) (hres : allU (s.length + 1) (U s) = (G, left, bad)) :
    Calls Tryd.prog 20 #[.slice A q c] w fun e w' => ∃ (A2 : Option Addr) (q2 c2 : Nat), e = .returned (.tuple #[.slice A2 q2 c2, .int .i64 left, .bool bad]) ∧ Aside0 (G.length = q2) ∧ Aside0 (q2 ≤ c2) ∧ Aside0 (Kd.C kReq w' A2 G.length G) ∧ Aside0 (Below w.heap.size w w') := by
  subst hq
  refine (all_any A s c w hb hc hl hby G left bad hres).mono ?_
  rintro e w' ⟨v, rfl, hv, hB⟩
  obtain ⟨A2, c2, rfl, h1, h2⟩ := Kd.R_reads hv
  exact ⟨A2, _, c2, rfl, ⟨rfl⟩, ⟨h1⟩, ⟨h2⟩, ⟨hB⟩⟩
theorem left_q (base g : Nat) (s : List Int) (bad : Bool) (w : World) (n : Nat) (hn : s.length = n) (hR : RdAt w base g s bad) :
    Calls Tryd.prog 22 #[.pointer (some ⟨g, 0, none⟩)] w fun e w' => e = .returned (.int .i64 n) ∧ w' = w := hn ▸ left_any base g s bad w hR
theorem short_q (A : Option Addr) (b : List Int) (c : Nat) (w : World) (hc : b.length ≤ c) (h : BC w A b) :
    Calls Tryd.prog 10 #[.slice A b.length c] w fun e w' => ∃ (b1 : List Int) (q : Nat), e = .returned (.slice A q c) ∧ w' = w ∧ Aside0 (b1.length = q) ∧ q ≤ 1500 ∧ q ≤ c ∧ Aside0 (BC w A b1) ∧ Aside0 (∀ z ∈ b1, z ∈ b) := by
  obtain ⟨_, h2, h3⟩ := cut_take A c b (min 1500 b.length : Nat) (by omega) (by omega) hc
  rw [Int.toNat_natCast] at h2 h3
  have e1 : b.take (min 1500 b.length) = b.take 1500 := by
    rcases Nat.le_total 1500 b.length with h | h
    · rw [Nat.min_eq_left h]
    · rw [Nat.min_eq_right h, List.take_length, List.take_of_length_le h]
  rw [e1] at h2 h3
  refine (short_any A b c w hc).mono ?_
  rintro e w' ⟨rfl, rfl⟩
  exact ⟨b.take 1500, _, rfl, rfl, ⟨rfl⟩, by rw [List.length_take]; omega, h3, ⟨h2 _ h⟩, ⟨fun z hz => List.mem_of_mem_take hz⟩⟩
end Go.Proofs.YtmbfapgamcbajaaDoor.X
namespace Go.Proofs.YtmbfapgamcbajaaDoor.X
open Go.RowKit Go.Proofs.YtmbfapgamcbajaaDoorW.PrintWords Go.Proofs.YtmbfapgamcbajaaDoorW.PrintLast

set_option maxHeartbeats 8000000 in
set_option maxRecDepth 100000 in
theorem FrameReads_walk (A1 : Option Addr) (b0 : List Int) (c1 : Nat) (a0 a1 a2 a3 : Int) (A3 : Option Addr) (mr : List Int) (c3 : Nat) (w : World) (hLd : Ld w) (h1 : BC w A1 b0) (hc1 : b0.length ≤ c1) (hby : Byt b0) (h3 : BC w A3 mr) (hc3 : mr.length ≤ c3)
    (k0 : 0 ≤ a0 ∧ a0 ≤ 65535) (k1 : 0 ≤ a1 ∧ a1 ≤ 65535) (k2 : 0 ≤ a2 ∧ a2 ≤ 65535) (k3 : 0 ≤ a3 ∧ a3 ≤ 65535) :
    Calls Tryd.prog 6 #[.slice A1 b0.length c1, .agg #[.int .u16 a0, .int .u16 a1, .int .u16 a2, .int .u16 a3], .slice A3 mr.length c3] w fun e w' => e = .returned (.bool true) ∧ Below w.heap.size w w' := by
  have HL := Aside0.mk hLd
  have H1 := Aside0.mk h1
  have H3 := Aside0.mk h3
  have HY := Aside0.mk hby
  clear hLd h1 h3 hby
  go_enter Tryd.func6, Tryd.ntmps6
  go_wp2_with fail
  obtain ⟨wb, hwb⟩ : ∃ wb, w.alloc (.cells #[.int .u16 a0, .int .u16 a1, .int .u16 a2, .int .u16 a3] 37) = wb := ⟨_, rfl⟩
  have HWB := Aside0.mk (show Below w.heap.size w wb by rw [← hwb]; exact below_alloc (Below.refl _ _) _)
  have HCB := Aside0.mk (show wb.heap[w.heap.size]? = some (.cells #[.int .u16 a0, .int .u16 a1, .int .u16 a2, .int .u16 a3] 37 (0, 0)) by rw [← hwb]; exact blk_new _ _)
  rw [hwb]
  obtain ⟨ga, hga⟩ : ∃ ga, w.heap.size = ga := ⟨_, rfl⟩
  have HGA := Aside0.mk hga
  rw [hga] at HCB ⊢
  clear hwb hga
  go_wp2_with (go_at_call 9; refine (shown_true _ (HL.out.below HWB.out)).mono ?_; rintro e w1 ⟨rfl, hb⟩; have HB1 := Aside0.mk hb; clear hb)
  have HW1 := Aside0.mk (below_then HWB.out HWB.out.size HB1.out)
  have HC1 := Aside0.mk ((HB1.out.block ga (pw_lt HCB.out)).trans HCB.out)
  refine (short_q A1 b0 c1 _ hc1 (Kd.C_below H1.out HW1.out)).mono ?_
  rintro e w2 ⟨b, lb, rfl, rfl, hlb, hlb1, hlb2, hC, hsub⟩
  have HYb := Aside0.mk (show Byt b from fun z hz => HY.out z (hsub.out z hz))
  clear hsub
  go_wp2_with fail
  refine (new_any w2).mono ?_
  rintro e w6 ⟨rfl, hw6⟩
  have HR6 := Aside0.mk (rd_new w2)
  rw [← hw6] at HR6
  have HB6 := Aside0.mk (show Below w2.heap.size w2 w6 by rw [hw6]; exact below_alloc (Below.refl _ _) _)
  obtain ⟨g, hg⟩ : ∃ g, w2.heap.size = g := ⟨_, rfl⟩
  have HG := Aside0.mk hg
  have hHR6 := HR6.out
  rw [hg] at hHR6 ⊢
  rw [← hg] at hHR6
  clear hw6 hg hHR6
  go_wp2
  have HRs := Aside0.mk (HR6.out.below (below_alloc (Below.refl w6.heap.size w6) (.cells #[] 25)))
  have HBs := Aside0.mk (below_then HB6.out HB6.out.size (below_alloc (Below.refl w6.heap.size w6) (.cells #[] 25)))
  have HOs := Aside0.mk (show Kd.R kReq 25 (w6.alloc (.cells #[] 25)) w2.heap.size (fun _ => True) (.slice (some ⟨w6.heap.size, 0, none⟩) 0 0) [] from ⟨fun _ _ => trivial, OwnRow.lit w6 w2.heap.size (ps := []) (inner := []) (Reps.none _ _) HB6.out.size (by simp)⟩)
  replace k0 := Aside0.mk k0
  replace k1 := Aside0.mk k1
  replace k2 := Aside0.mk k2
  replace k3 := Aside0.mk k3
  rw [HG.out] at HRs
  go_loopw [9, 10, 11, 12] (fun v6 v7 v8 v9 wr => ∃ (i at_ : Nat) (G : List (List ByteArray)) (s' : List Int) (bd : Bool) (la : Int), v9 = .int .i64 i ∧ v8 = .int .i64 at_ ∧ v7 = .int .i64 la ∧ i ≤ 5 ∧ at_ ≤ lb ∧ (i = 5 → at_ = lb) ∧ Aside0 (la = (if bd = true then 10 else 0)) ∧ Aside0 (Kd.R kReq 25 wr w2.heap.size (fun _ => True) v6 G) ∧ Aside0 (RdAt wr w2.heap.size g s' bd) ∧ Aside0 (Below w2.heap.size w2 wr) ∧ Aside0 (RdInv (b.length + 1) (U b) at_ G (U s') bd)) (fun _ _ _ v9 _ => 5 - (match v9 with | .int _ i => i.toNat | _ => 0))
  case atStart => exact ⟨0, 0, [], [], false, 0, rfl, rfl, rfl, by omega, by omega, fun h => by omega, ⟨rfl⟩, HOs, by simpa [HG.out] using HRs, HBs, ⟨inv_start _ _⟩⟩
  case round =>
    clear HRs HBs HOs HR6 HB6
    obtain ⟨i, at_, G, s', bd, la, rfl, rfl, rfl, hi5, hat, hend, HLA, HO, HR, HB, HI⟩ := hrel
    obtain ⟨A6, c6, e6⟩ := Kd.R_slice HO.out
    obtain ⟨q6, hq6⟩ : ∃ q, G.length = q := ⟨_, rfl⟩
    rw [hq6] at e6
    subst e6
    have HQ6 := Aside0.mk hq6
    clear hq6
    by_cases h5 : i = 5
    · subst h5
      obtain rfl : lb = at_ := (hend rfl).symm
      obtain ⟨ls, hls⟩ : ∃ ls, s'.length = ls := ⟨_, rfl⟩
      have hI := HI.out
      rw [show lb = (U b).length by rw [U_len, hlb.out]] at hI
      have hall := inv_end hI (Nat.succ_pos _)
      rw [U_len, hls] at hall
      have hgl := inv_len HI.out
      rw [U_len, hlb.out] at hgl
      have hsl := HI.out.len
      rw [U_len, hls] at hsl
      have HALL := Aside0.mk hall
      have HGL := Aside0.mk hgl
      have HLS := Aside0.mk hls
      clear hend hI hall hgl hls
      go_wp2_with fail
      refine (all_q A1 b c1 wr (Kd.C_below hC.out HB.out) lb hlb.out hlb2 (by omega) HYb.out G ls bd HALL.out).mono ?_
      rintro e w7 ⟨A7, q7, c7, rfl, hq7, hc7, hC7, hB7⟩
      have HR7 := Aside0.mk (HR.out.below hB7.out)
      obtain ⟨hqq, hc6, hC6⟩ := Kd.R_reads' (Kd.R_below HO.out hB7.out)
      clear hqq
      have HC6 := Aside0.mk hC6
      clear hC6
      go_wp2_with fail
      refine (same_all w7 A6 A7 q6 q7 c6 c7 G HQ6.out hq7.out (Nat.le_trans HGL.out.1 hlb1) HGL.out.2 HC6.out hc6 hC7.out hc7.out).mono ?_
      rintro e w8 ⟨rfl, hd8⟩
      have HR8 := Aside0.mk (HR7.out.below hd8.below)
      have HB8 := Aside0.mk (below_then (below_then HB.out HB.out.size hB7.out) (below_then HB.out HB.out.size hB7.out).size hd8.below)
      have HW8 := Aside0.mk (below_then HW1.out HW1.out.size HB8.out)
      clear hd8
      cases bd with
      | false =>
        obtain rfl : la = 0 := HLA.out
        go_wp2_with fail
        refine (left_q w2.heap.size g s' false w8 ls HLS.out HR8.out).mono ?_
        rintro e w9 ⟨rfl, rfl⟩
        go_wp2
        go_ret
        exact ⟨rfl, HW8.out⟩
      | true =>
        obtain rfl : la = 10 := HLA.out
        go_wp2_with fail
        refine (left_q w2.heap.size g s' true w8 ls HLS.out HR8.out).mono ?_
        rintro e w9 ⟨rfl, rfl⟩
        go_wp2_with fail
        refine (short_q A3 mr c3 w9 hc3 (Kd.C_below H3.out HW8.out)).mono ?_
        rintro e w10 ⟨m1, lm, rfl, rfl, hlm, hlm1, hlm2, hCm, _⟩
        go_wp2_with fail
        refine (feed_r w2 g A3 m1 c3 s' true w10 (Nat.le_of_eq HG.out) HB8.out HR8.out hCm.out lm hlm.out hlm2 (by rw [HLS.out]; omega) (.slice none 0 0) [] (Kd.R_nil _ _ _ _ _)).mono ?_
        rintro e w11 ⟨rfl, hR11, hB11, _⟩
        go_wp2_with fail
        refine (rd_next_bad w2.heap.size g (s' ++ m1) w11 hR11.out).mono ?_
        rintro e w12 ⟨rfl, rfl⟩
        go_wp2
        go_ret
        exact ⟨rfl, below_then HW1.out HW1.out.size hB11.out⟩
    · obtain ⟨c, hc0, hc1', hcr⟩ : ∃ c : Int, 0 ≤ c ∧ c ≤ 65535 ∧ (i < 4 → wr.cell? ⟨ga, i, none⟩ = some (.int .u16 c)) := by
        by_cases h4 : i < 4
        · have hh := (HB.out.block ga (pw_lt HC1.out)).trans HC1.out
          have hc := fun j => (pw_cells hh j).1
          rcases (by omega : i = 0 ∨ i = 1 ∨ i = 2 ∨ i = 3) with rfl | rfl | rfl | rfl
          · exact ⟨a0, k0.out.1, k0.out.2, fun _ => hc 0⟩
          · exact ⟨a1, k1.out.1, k1.out.2, fun _ => hc 1⟩
          · exact ⟨a2, k2.out.1, k2.out.2, fun _ => hc 2⟩
          · exact ⟨a3, k3.out.1, k3.out.2, fun _ => hc 3⟩
        · exact ⟨0, by omega, by omega, fun h => absurd h h4⟩
      obtain ⟨nx, hn1, hn2, hn3, hn4⟩ : ∃ nx : Nat, at_ ≤ nx ∧ nx ≤ lb ∧ (i < 4 → wrap64 ((at_ : Int) + c % ((lb : Int) - at_ + 1)) = nx) ∧ (¬ i < 4 → lb = nx) := by
        by_cases h4 : i < 4
        · have h1 := Int.emod_nonneg c (show (lb : Int) - at_ + 1 ≠ 0 by omega)
          have h2 := Int.emod_lt_of_pos c (show (0 : Int) < lb - at_ + 1 by omega)
          refine ⟨((at_ : Int) + c % ((lb : Int) - at_ + 1)).toNat, by omega, by omega, fun _ => ?_, fun h => absurd h4 h⟩
          rw [w64 (by omega) (by omega)]
          omega
        · exact ⟨lb, hat, Nat.le_refl _, fun h => absurd h h4, fun _ => rfl⟩
      obtain ⟨A', cut, bc, hcc⟩ := cut_mid A1 c1 b at_ nx (by omega) (by omega) (by rw [hlb.out]; omega) (by rw [hlb.out]; exact hlb2)
      simp only [Int.toNat_natCast] at cut bc hcc
      obtain ⟨p, hp⟩ : ∃ p, p = (b.take nx).drop at_ := ⟨_, rfl⟩
      rw [← hp] at cut bc hcc
      have hlp1 : p.length ≤ 1500 := by rw [hp, List.length_drop, List.length_take]; omega
      obtain ⟨lp, hlp⟩ : ∃ lp, p.length = lp := ⟨_, rfl⟩
      rw [hlb.out, hlp] at cut
      rw [hlp] at hcc hlp1
      obtain ⟨cp, hcp⟩ : ∃ cp, c1 - at_ = cp := ⟨_, rfl⟩
      rw [hcp] at cut hcc
      have HP := Aside0.mk hp
      have HLP := Aside0.mk hlp
      have HN4 := Aside0.mk hn4
      have BCp := Aside0.mk (bc wr (Kd.C_below hC.out HB.out))
      clear hp hlp hcp bc
      by_cases h4 : i < 4
      · have hcell := hcr h4
        have hn := hn3 h4
        have HAT := Aside0.mk hn
        clear hn3 hn4 hcr
        go_wp2_with fail
        refine (feed_r w2 g A' p cp s' bd wr (Nat.le_of_eq HG.out) HB.out HR.out BCp.out lp HLP.out hcc (by have h1 := HI.out.len; rw [U_len] at h1; omega) (.slice A6 q6 c6) G HO.out).mono ?_
        rintro e w3 ⟨rfl, hR3, hB3, hO3⟩
        go_wp2_with fail
        refine (piece_any w2 (HL.out.below HW1.out) g b s' p bd at_ nx G w3 (Nat.le_of_eq HG.out) hB3.out hR3.out (by rw [hlb.out]; exact hlb1) HI.out hn1 (by rw [hlb.out]; exact hn2) HP.out (.slice A6 q6 c6) hO3.out).mono ?_
        rintro e w4 ⟨A2, q2, c2, s2, bd', ee, L, rfl, HEE, hbad, HQ2, HR4, HB4, HI4, HO4, HRW⟩
        have hsz : (G.length + q2) * 24 ≤ 140737488355328 := by
          have h1 := (inv_len HI4.out).1
          rw [U_len, List.length_append, HQ2.out, hlb.out] at h1
          omega
        have HSZ := Aside0.mk hsz
        clear hsz
        cases bd with
        | true =>
          obtain ⟨rfl, hq2⟩ := hbad rfl
          obtain rfl : la = 10 := HLA.out
          have hq0 : ¬ ((0 : Int) < (q2 : Int)) := by omega
          clear hbad hq2
          go_wp2_with (at_builtin; go_loud (refine Kd.R_append_rows kReq (Rr := kReq.M w4 w2.heap.size (fun k => True ∧ some k ≠ (Value.slice A6 q6 c6).ownBlock)) (w0 := w2) w2.heap.size rfl (.tmp 78) (.tmp 79) 40 25 (.slice none 0 0) 24 rfl Tryd.underlying40 infoQ rfl (by decide) (by decide) (.slice A6 q6 c6) G L A2 _ c2 (fun _ => True) _ rfl rfl HO4.out HRW.out (fun _ _ h => h) (fun _ h => h) (fun k hk => trivial) HB4.out HB4.out.size HSZ.out ?_; intro v5 w5 ho hb5 hg5 hat5; have HO5 := Aside0.mk ho; have HB5 := Aside0.mk hb5; have HR5 := Aside0.mk (rd_grown HR4.out HO4.out hg5); clear ho hb5 hg5 hat5))
          exact ⟨⟨i + 1, nx, G ++ L, s2, bd', _, by simp, rfl, rfl, by omega, hn2, fun h => by have := HN4.out (by omega); omega, HEE, HO5, HR5, HB5, HI4⟩, by simp; omega⟩
        | false =>
          obtain rfl : la = 0 := HLA.out
          clear hbad
          go_wp2_with (at_builtin; go_loud (refine Kd.R_append_rows kReq (Rr := kReq.M w4 w2.heap.size (fun k => True ∧ some k ≠ (Value.slice A6 q6 c6).ownBlock)) (w0 := w2) w2.heap.size rfl (.tmp 78) (.tmp 79) 40 25 (.slice none 0 0) 24 rfl Tryd.underlying40 infoQ rfl (by decide) (by decide) (.slice A6 q6 c6) G L A2 _ c2 (fun _ => True) _ rfl rfl HO4.out HRW.out (fun _ _ h => h) (fun _ h => h) (fun k hk => trivial) HB4.out HB4.out.size HSZ.out ?_; intro v5 w5 ho hb5 hg5 hat5; have HO5 := Aside0.mk ho; have HB5 := Aside0.mk hb5; have HR5 := Aside0.mk (rd_grown HR4.out HO4.out hg5); clear ho hb5 hg5 hat5))
          exact ⟨⟨i + 1, nx, G ++ L, s2, bd', _, by simp, rfl, rfl, by omega, hn2, fun h => by have := HN4.out (by omega); omega, HEE, HO5, HR5, HB5, HI4⟩, by simp; omega⟩
      · have hn := hn4 h4
        rw [← hn] at cut
        have HAT := Aside0.mk (congrArg (fun n : Nat => Value.int .i64 (n : Int)) hn)
        clear hn hn3 hn4 hcr
        go_wp2_with fail
        refine (feed_r w2 g A' p cp s' bd wr (Nat.le_of_eq HG.out) HB.out HR.out BCp.out lp HLP.out hcc (by have h1 := HI.out.len; rw [U_len] at h1; omega) (.slice A6 q6 c6) G HO.out).mono ?_
        rintro e w3 ⟨rfl, hR3, hB3, hO3⟩
        go_wp2_with fail
        refine (piece_any w2 (HL.out.below HW1.out) g b s' p bd at_ nx G w3 (Nat.le_of_eq HG.out) hB3.out hR3.out (by rw [hlb.out]; exact hlb1) HI.out hn1 (by rw [hlb.out]; exact hn2) HP.out (.slice A6 q6 c6) hO3.out).mono ?_
        rintro e w4 ⟨A2, q2, c2, s2, bd', ee, L, rfl, HEE, hbad, HQ2, HR4, HB4, HI4, HO4, HRW⟩
        have hsz : (G.length + q2) * 24 ≤ 140737488355328 := by
          have h1 := (inv_len HI4.out).1
          rw [U_len, List.length_append, HQ2.out, hlb.out] at h1
          omega
        have HSZ := Aside0.mk hsz
        clear hsz
        cases bd with
        | true =>
          obtain ⟨rfl, hq2⟩ := hbad rfl
          obtain rfl : la = 10 := HLA.out
          have hq0 : ¬ ((0 : Int) < (q2 : Int)) := by omega
          clear hbad hq2
          go_wp2_with (at_builtin; go_loud (refine Kd.R_append_rows kReq (Rr := kReq.M w4 w2.heap.size (fun k => True ∧ some k ≠ (Value.slice A6 q6 c6).ownBlock)) (w0 := w2) w2.heap.size rfl (.tmp 78) (.tmp 79) 40 25 (.slice none 0 0) 24 rfl Tryd.underlying40 infoQ rfl (by decide) (by decide) (.slice A6 q6 c6) G L A2 _ c2 (fun _ => True) _ rfl rfl HO4.out HRW.out (fun _ _ h => h) (fun _ h => h) (fun k hk => trivial) HB4.out HB4.out.size HSZ.out ?_; intro v5 w5 ho hb5 hg5 hat5; have HO5 := Aside0.mk ho; have HB5 := Aside0.mk hb5; have HR5 := Aside0.mk (rd_grown HR4.out HO4.out hg5); clear ho hb5 hg5 hat5))
          exact ⟨⟨i + 1, nx, G ++ L, s2, bd', _, by simp, HAT.out, rfl, by omega, hn2, fun h => by have := HN4.out (by omega); omega, HEE, HO5, HR5, HB5, HI4⟩, by simp; omega⟩
        | false =>
          obtain rfl : la = 0 := HLA.out
          clear hbad
          go_wp2_with (at_builtin; go_loud (refine Kd.R_append_rows kReq (Rr := kReq.M w4 w2.heap.size (fun k => True ∧ some k ≠ (Value.slice A6 q6 c6).ownBlock)) (w0 := w2) w2.heap.size rfl (.tmp 78) (.tmp 79) 40 25 (.slice none 0 0) 24 rfl Tryd.underlying40 infoQ rfl (by decide) (by decide) (.slice A6 q6 c6) G L A2 _ c2 (fun _ => True) _ rfl rfl HO4.out HRW.out (fun _ _ h => h) (fun _ h => h) (fun k hk => trivial) HB4.out HB4.out.size HSZ.out ?_; intro v5 w5 ho hb5 hg5 hat5; have HO5 := Aside0.mk ho; have HB5 := Aside0.mk hb5; have HR5 := Aside0.mk (rd_grown HR4.out HO4.out hg5); clear ho hb5 hg5 hat5))
          exact ⟨⟨i + 1, nx, G ++ L, s2, bd', _, by simp, HAT.out, rfl, by omega, hn2, fun h => by have := HN4.out (by omega); omega, HEE, HO5, HR5, HB5, HI4⟩, by simp; omega⟩
end Go.Proofs.YtmbfapgamcbajaaDoor.X
