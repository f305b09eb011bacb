/- FrameLines: its walk. -/
import Derived.Test.YtmbfapgamcbajaaDoorPLines
import Derived.Test.YtmbfapgamcbajaaDoorEFShown
import Derived.Test.YtmbfapgamcbajaaDoorPTexts
import Derived.Deep.RegionLaw
import Derived.IntWalk
import Derived.Test.YtmbfapgamcbajaaDoorWLast
set_option linter.unusedVariables false
set_option linter.unusedSimpArgs false
namespace Go.Proofs.YtmbfapgamcbajaaDoor.X
open Go.RowKit Go.Proofs.YtmbfapgamcbajaaDoorW.PrintWords Go.Proofs.YtmbfapgamcbajaaDoorW.PrintLast

/-- A text as bytes: its row. -/
theorem conv_row (w0 : World) (w : World) (hB : Below w0.heap.size w0 w) (T : ByteArray) (x : List UInt8) (hx : T.data.toList = x) (n : Nat) (hn : T.size = n) (hl : n ≤ 100000) :
    ∃ (cap : Nat) (w2 : World), (convert 9 22 (.string T)).run Tryd.prog w = .ok (.slice (some ⟨w.heap.size, 0, none⟩) n cap) w2 ∧ n ≤ cap ∧ Aside0 (BC w2 (some ⟨w.heap.size, 0, none⟩) (NB x)) ∧ (NB x).length = n ∧ Aside0 (Below w.heap.size w w2) ∧ Aside0 (Below w0.heap.size w0 w2) := by
  subst hx hn
  have hcv := Lib.run_convert_string_bytes (P := Tryd.prog) w 9 22 5 T Tryd.underlying9 Tryd.underlying22 Tryd.underlying5
  have hO := own_conv w 5 T (by simp only [maxLen]; omega)
  rw [bytes_NB] at hO
  obtain ⟨A, c, e, h1, h2⟩ := hO.reads
  injection e with e1 e2 e3
  subst e1 e3
  exact ⟨_, _, hcv, by omega, ⟨by unfold BC; exact h2⟩, by rw [← e2], ⟨bytes_below (Below.refl _ _) (Nat.le_refl _) 5 T⟩, ⟨bytes_below hB hB.size 5 T⟩⟩
theorem texts_q (A B : Option Addr) (c d : Nat) (l : List ByteArray) (n m : Nat) (hn : l.length = n) (hm : l.length = m) (w : World) (hA : Kd.C Kd.string w A l.length l) (hc : n ≤ c) (hB : Kd.C Kd.string w B l.length l) (hd : m ≤ d) (hl : n ≤ 1000) :
    Calls Tryd.prog 12 #[.slice A n c, .slice B m d] w fun e w' => e = .returned (.bool true) ∧ Aside0 (Below w.heap.size w w') := by
  subst hn hm
  refine (texts_any A c l B d l w hA hc hB hd hl).mono ?_
  rintro e w' ⟨b, rfl, hb, hd⟩
  obtain rfl : b = true := hb.out.2 rfl
  exact ⟨rfl, ⟨hd.below⟩⟩
theorem feed_p (w0 : World) (g : Nat) (A : Option Addr) (b : List Int) (c : Nat) (s : List Int) (w : World) (hg : w0.heap.size ≤ g) (hB : Below w0.heap.size w0 w) (hR : RdAt w w0.heap.size g s false) (hb : BC w A b) (m : Nat) (hm : b.length = m) (hc : m ≤ c) (hl : s.length + m ≤ 1000000) :
    Calls Tryd.prog 18 #[.pointer (some ⟨g, 0, none⟩), .slice A m c] w fun e w' => e = .returned (.tuple #[]) ∧ Aside0 (RdAt w' w0.heap.size g (s ++ b) false) ∧ Aside0 (Below w0.heap.size w0 w') := by
  subst hm
  refine (feed_any w0 g A b c s false w hg hB hR hb hc hl).mono ?_
  rintro e w' ⟨rfl, h1, h2, _⟩
  exact ⟨rfl, ⟨h1⟩, ⟨h2⟩⟩
theorem next_w (w0 : World) (hLd : Ld w0) (g : Nat) (s : List Int) (w : World) (hg : w0.heap.size ≤ g) (hB : Below w0.heap.size w0 w) (hR : RdAt w w0.heap.size g s false) (hl : s.length ≤ 1000000) (l : List ByteArray) (n : Nat) (hn : l.length = n) (ok : Bool) (hres : readU (s.length + 1) (U s) = (l, [], ok, 0, false)) :
    Calls Tryd.prog 23 #[.pointer (some ⟨g, 0, none⟩)] w fun e w' => ∃ (A : Option Addr) (c : Nat), e = .returned (.tuple #[.slice A n c, .bool ok, .int .i64 0]) ∧ n ≤ c ∧ Aside0 (Kd.C Kd.string w' A l.length l) ∧ Aside0 (RdAt w' w0.heap.size g [] false) ∧ Aside0 (Below w0.heap.size w0 w') := by
  subst hn
  refine (rd_next w0 hLd g s w hg hB hR hl l [] ok 0 false hres).mono ?_
  rintro e w' ⟨v, rfl, hv, ⟨s', hs', _, hR'⟩, _, hB'⟩
  obtain ⟨A, c, rfl, h1, h2⟩ := Kd.R_reads hv
  have h0 : s' = [] := by
    have h := congrArg List.length hs'
    rw [U_len] at h
    exact List.eq_nil_of_length_eq_zero h
  subst h0
  exact ⟨A, c, rfl, h1, ⟨h2⟩, ⟨hR'⟩, ⟨hB'⟩⟩
theorem left_none (base g : Nat) (w : World) (hR : RdAt w base g [] false) :
    Calls Tryd.prog 22 #[.pointer (some ⟨g, 0, none⟩)] w fun e w' => e = .returned (.int .i64 0) ∧ w' = w := left_any base g [] false w hR

set_option maxHeartbeats 8000000 in
set_option maxRecDepth 100000 in
theorem FrameLines_walk (A1 : Option Addr) (l : List ByteArray) (c1 : Nat) (z : Int) (both : Bool) (w : World) (hLd : Ld w) (h1 : Kd.C Kd.string w A1 l.length l) (hc1 : l.length ≤ c1) (hsz : ∀ x ∈ l, x.size ≤ maxLen) (z0 : 0 ≤ z) (z1 : z ≤ 255) :
    Calls Tryd.prog 7 #[.slice A1 l.length c1, .int .u8 z, .bool both] w fun e w' => e = .returned (.bool true) ∧ Below w.heap.size w w' := by
  have HL := Aside0.mk hLd
  have H1 := Aside0.mk h1
  have HSZ := Aside0.mk hsz
  clear hLd h1 hsz
  obtain ⟨n, hn⟩ : ∃ n : Nat, z % 3 = n := ⟨(z % 3).toNat, by omega⟩
  have hn3 : n ≤ 2 := by omega
  go_enter Tryd.func7, Tryd.ntmps7
  go_wp2_with (go_at_call 9; refine (shown_true _ HL.out).mono ?_; rintro e w1 ⟨rfl, hb⟩; have HW1 := Aside0.mk hb; clear hb)
  have HB0 := Aside0.mk (below_then HW1.out HW1.out.size (below_alloc (Below.refl w1.heap.size w1) (.cells #[] 9)))
  have HO0 := Aside0.mk (show Kd.R Kd.string 9 (w1.alloc (.cells #[] 9)) w.heap.size (fun _ => True) (.slice (some ⟨w1.heap.size, 0, none⟩) 0 0) [] from ⟨fun _ _ => trivial, OwnRow.lit w1 w.heap.size (ps := []) (inner := []) (Reps.none _ _) HW1.out.size (by simp)⟩)
  go_loopw [8, 9, 10] (fun v8 v9 v10 wr => ∃ (i : Nat) (W : List ByteArray) (L : ByteArray), v10 = .int .i64 i ∧ v9 = .string L ∧ i ≤ l.length ∧ i ≤ 32 ∧ Aside0 (L.data.toList = catW (n + 1) W) ∧ Aside0 (Kd.R Kd.string 9 wr w.heap.size (fun _ => True) v8 W) ∧ Aside0 (GoodW W) ∧ W.length ≤ i ∧ Aside0 (Below w.heap.size w wr)) (fun _ _ v10 _ => 32 - (intOf v10).toNat)
  case atStart => exact ⟨0, [], ⟨#[]⟩, rfl, rfl, Nat.zero_le _, Nat.zero_le _, ⟨rfl⟩, HO0, ⟨good_nil⟩, Nat.zero_le _, HB0⟩
  case round =>
    clear HO0 HB0
    obtain ⟨i, W, L, rfl, rfl, hil, hi32, HLe, HO, HG, hWi, HB⟩ := hrel
    obtain ⟨A6, c6, e6⟩ := Kd.R_slice HO.out
    obtain ⟨q6, hq6⟩ : ∃ q, W.length = q := ⟨_, rfl⟩
    rw [hq6] at e6 hWi
    subst e6
    have HQ6 := Aside0.mk hq6
    clear hq6
    by_cases hlt : i < l.length ∧ i < 32
    · obtain ⟨hl1, hl2⟩ := hlt
      obtain ⟨ad, e0, hcell⟩ := (Kd.reads_of_C (d := ByteArray.empty) H1.out).2.2 (by omega)
      subst e0
      have hc1' := (HB.out.cell (World.block_lt_of_cell? w _ (hcell i hl1))).trans (hcell i hl1)
      obtain ⟨x, hx⟩ : ∃ x, l.getD i ByteArray.empty = x := ⟨_, rfl⟩
      rw [hx] at hc1'
      have hxl : l[i] = x := by rw [← hx, List.getD_eq_getElem?_getD, List.getElem?_eq_getElem hl1]; rfl
      have HXS := Aside0.mk (show x.size ≤ 9223372036854775807 from Nat.le_trans (HSZ.out x (hxl ▸ List.getElem_mem hl1)) (by decide))
      have hI1 : (i : Int) < l.length := by omega
      have hI2 : (i : Int) < 32 := by omega
      clear hcell hx hxl
      go_wp2_with fail
      refine (plain_any x HXS.out _).mono ?_
      rintro e w2 ⟨t, rfl, HT, HB2⟩
      have HO2 := Aside0.mk (Kd.R_below HO.out HB2.out)
      have HBW2 := Aside0.mk (below_then HB.out HB.out.size HB2.out)
      by_cases T0 : t.toList = []
      · go_wp2_with fail
        exact ⟨⟨i + 1, W, L, by simp, rfl, by omega, by omega, HLe, HO2, HG, by rw [HQ6.out]; omega, HBW2⟩, by simp [intOf]; omega⟩
      · have hpos : 0 < t.size := by
          rcases Nat.eq_zero_or_pos t.size with h | h
          · exact absurd (by rw [toList_data]; exact List.eq_nil_of_length_eq_zero (by rw [← Lib.size_eq]; exact h)) T0
          · exact h
        have hise : t.toList.isEmpty = false := by simpa using T0
        have HT0 := Aside0.mk T0
        obtain ⟨f, hf⟩ : ∃ f : Int, ((t[0]'hpos).toNat : Int) = f := ⟨_, rfl⟩
        have HF := Aside0.mk (show f ≠ 42 → t.data.toList.head? ≠ some 42 by
          intro h1 h2
          have h3 : t.data.toList[0]? = some 42 := by rw [← List.head?_eq_getElem?]; exact h2
          have h4 := bt_data h3
          have h5 := bt_at t 0 hpos
          apply h1
          rw [← hf]
          exact h5.trans h4)
        by_cases hsk : f = 42 ∧ q6 = 0
        · obtain ⟨rfl, rfl⟩ := hsk
          by_cases hi0 : i = 0
          · go_wp2_with fail
            exact ⟨⟨i + 1, W, L, by simp [hi0], rfl, by omega, by omega, HLe, HO2, HG, by rw [HQ6.out]; omega, HBW2⟩, by simp [intOf]; omega⟩
          · go_wp2_with fail
            exact ⟨⟨i + 1, W, L, by simp, rfl, by omega, by omega, HLe, HO2, HG, by rw [HQ6.out]; omega, HBW2⟩, by simp [intOf]; omega⟩
        · have HKEEP := Aside0.mk (show q6 = 0 → f ≠ 42 from fun h1 h2 => hsk ⟨h2, h1⟩)
          have hways : (f == 42) = false ∧ i = 0 ∧ q6 = 0 ∨ (f == 42) = false ∧ ¬ i = 0 ∧ q6 = 0 ∨ (f == 42) = false ∧ ¬ i = 0 ∧ ¬ q6 = 0 ∨ (f == 42) = true ∧ ¬ i = 0 ∧ ¬ q6 = 0 := by
            by_cases h1 : f = 42 <;> by_cases h2 : i = 0 <;> by_cases h3 : q6 = 0 <;> simp_all
          clear hsk
          rcases hways with ⟨hb, hi0, rfl⟩ | ⟨hb, hi0, rfl⟩ | ⟨hb, hi0, hq0⟩ | ⟨hb, hi0, hq0⟩
          all_goals go_wp2_with (at_builtin; go_loud (refine Kd.R_append Kd.string (w0 := w) w.heap.size rfl (.tmp 59) (.tmp 61) 25 9 (.string ⟨#[]⟩) 16 rfl Tryd.underlying25 infoS rfl (by decide) (by decide) _ W t [.string t] (fun _ => True) (fun _ => False) rfl rfl rfl (fun _ h => h.elim) (fun _ _ => trivial) HO2.out HBW2.out HBW2.out.size (by rw [HQ6.out]; omega) ?_; intro v4 w4 ho hb4 hg4 hat; have HO4 := Aside0.mk ho; have HB4 := Aside0.mk hb4; clear ho hb4 hg4 hat))
          all_goals go_loopw [11, 12] (fun v11 v12 wx => wx = w4 ∧ ∃ (j : Nat) (S : ByteArray), v12 = .int .i64 j ∧ v11 = .string S ∧ j ≤ n + 1 ∧ Aside0 (S.data.toList = t.data.toList ++ List.replicate j 32)) (fun _ v12 _ => n + 1 - (intOf v12).toNat)
          all_goals first
            | (case atStart => exact ⟨rfl, 0, t, rfl, rfl, Nat.zero_le _, ⟨by simp⟩⟩)
            | skip
          all_goals (
            case round =>
              obtain ⟨rfl, j, S, rfl, rfl, hj, HS⟩ := hrel
              have hSs : S.size ≤ 18 := by
                have h1 := congrArg List.length HS.out
                rw [← Lib.size_eq, List.length_append, List.length_replicate, ← Lib.size_eq] at h1
                have h2 := HT.out.1
                omega
              have hLs : L.size ≤ 600 := by
                have h1 := congrArg List.length HLe.out
                rw [← Lib.size_eq] at h1
                have h2 := cat_len (n + 1) (by omega) W HG.out.ok
                have h3 := HQ6.out
                omega
              by_cases hjn : j ≤ n
              · have hI : (j : Int) ≤ n := by omega
                go_wp2
                exact ⟨⟨(by first | trivial | rfl), j + 1, S ++ ⟨#[32]⟩, by simp, rfl, by omega, ⟨by simp [ByteArray.data_append, HS.out, List.replicate_succ']⟩⟩, by simp [intOf]; omega⟩
              · obtain rfl : j = n + 1 := by omega
                have hI : ¬ (((n + 1 : Nat) : Int) ≤ n) := by omega
                go_wp2
                refine ⟨⟨i + 1, W ++ [t], L ++ S, by simp [hi0], rfl, by omega, by omega, ⟨by rw [ByteArray.data_append, Array.toList_append, HLe.out, HS.out, cat_snoc]⟩, HO4, ⟨good_snoc HG.out HT.out (by rw [← toList_data]; exact HT0.out) (fun hW => HF.out (HKEEP.out ?_))⟩, by simp; have := HQ6.out; omega, HB4⟩, by simp [intOf]; omega⟩
                have h9 := HQ6.out
                have h8 := congrArg List.length hW
                have h7 := HQ6.out
                first | trivial | rfl | (rw [hW] at h7; exact h7.symm))
    · have hLs : L.size ≤ 576 := by
        have h1 := congrArg List.length HLe.out
        rw [← Lib.size_eq] at h1
        have h2 := cat_len (n + 1) (by omega) W HG.out.ok
        have h3 := HQ6.out
        omega
      have HLs := Aside0.mk (show (catW (n + 1) W).length = L.size by rw [← HLe.out, ← Lib.size_eq])
      have HONE := Aside0.mk (show ∀ e : List UInt8, isEnd e → nextU (catW (n + 1) W ++ e) = (W, (((catW (n + 1) W).length + e.length : Nat) : Int), 0) from fun e he => by
        have := lines_one (n + 1) (by omega) (by omega) W HG.out (by rw [HQ6.out]; omega) e [] he
        rwa [List.append_nil] at this)
      have HNE := Aside0.mk (show decide (W ≠ []) = decide ((0 : Int) < (q6 : Int)) by
        have h9 := HQ6.out
        cases W with
        | nil => subst h9; rfl
        | cons u v => simp at h9 ⊢; omega)
      have HTWO := Aside0.mk (fun e he k => lines_two (n + 1) (by omega) (by omega) W HG.out (by rw [HQ6.out]; omega) e he k)
      have hcs : ¬ ((i : Int) < l.length) ∨ ((i : Int) < l.length ∧ ¬ ((i : Int) < 32)) := by omega
      cases both with
      | true =>
        rcases hcs with hc9 | ⟨hc8, hc9⟩
        all_goals (
          obtain ⟨cap1, w2, hcv1, hcap1, hC1, hN1, hB1, hBW1⟩ := conv_row w wr HB.out (L ++ (⟨#[13, 10]⟩ : ByteArray)) (catW (n + 1) W ++ [13, 10]) (by rw [ByteArray.data_append, Array.toList_append, HLe.out]) (L.size + 2) (by rw [ByteArray.size_append]; rfl) (by omega)
          go_wp2_with fail
          refine (next_q w _ _ cap1 w2 HL.out hBW1.out (L.size + 2) hN1 hC1.out hcap1 (by omega) W ((L.size : Int) + 2) 0 (by rw [nextB_U, U_NB]; have h9 := HONE.out [13, 10] (.inr rfl); rw [h9, HLs.out]; rfl) q6 HQ6.out).mono ?_
          rintro e w3 ⟨A3, c3, rfl, hc3, hC3, hBW3, hB3⟩
          have HO3 := Aside0.mk (Kd.R_below (Kd.R_below HO.out hB1.out) hB3.out)
          obtain ⟨hqq, hc6, hC6⟩ := Kd.R_reads' HO3.out
          clear hqq
          have HC6 := Aside0.mk hC6
          clear hC6
          go_wp2_with fail
          refine (texts_q A3 A6 c3 c6 W q6 q6 HQ6.out HQ6.out w3 hC3.out hc3.out HC6.out hc6 (by omega)).mono ?_
          rintro e w4 ⟨rfl, hB4⟩
          have HBW4 := Aside0.mk (below_then hBW3.out hBW3.out.size hB4.out)
          have HC64 := Aside0.mk (Kd.C_below HC6.out hB4.out)
          go_wp2_with fail
          refine (new_any w4).mono ?_
          rintro e w6 ⟨rfl, hw6⟩
          have HR6 := Aside0.mk (rd_new w4)
          rw [← hw6] at HR6
          have HB6 := Aside0.mk (show Below w4.heap.size w4 w6 by rw [hw6]; exact below_alloc (Below.refl _ _) _)
          obtain ⟨g, hg⟩ : ∃ g, w4.heap.size = g := ⟨_, rfl⟩
          have HGg := Aside0.mk hg
          have hHR6 := HR6.out
          rw [hg] at hHR6 ⊢
          rw [← hg] at hHR6
          clear hw6 hg hHR6
          obtain ⟨cap2, w7, hcv2, hcap2, hC2, hN2, hB7, hBW7⟩ := conv_row w4 w6 HB6.out ((⟨#[13, 10]⟩ : ByteArray) ++ (⟨#[32, 32]⟩ : ByteArray) ++ (⟨#[13, 10]⟩ : ByteArray) ++ L ++ (⟨#[13, 10]⟩ : ByteArray)) ([13, 10] ++ [32, 32] ++ [13, 10] ++ catW (n + 1) W ++ [13, 10]) (by simp only [ByteArray.data_append, Array.toList_append, HLe.out]) (L.size + 8) (by simp only [ByteArray.size_append]; show 2 + 2 + 2 + L.size + 2 = _; omega) (by omega)
          go_wp2_with fail
          refine (feed_p w4 g _ _ cap2 [] w7 (Nat.le_of_eq HGg.out) hBW7.out (HGg.out ▸ HR6.out.below hB7.out) hC2.out (L.size + 8) hN2 hcap2 (by simp; omega)).mono ?_
          rintro e w8 ⟨rfl, hR8, hB8⟩
          go_wp2_with fail
          refine (next_w w4 (HL.out.below HBW4.out) g _ w8 (Nat.le_of_eq HGg.out) hB8.out hR8.out (by rw [List.nil_append, hN2]; omega) W q6 HQ6.out (decide ((0 : Int) < (q6 : Int))) (by rw [List.nil_append, U_NB, hN2, show L.size + 8 + 1 = L.size + 5 + 4 by omega, HTWO.out [13, 10] (.inr rfl) (L.size + 5), HNE.out])).mono ?_
          rintro e w9 ⟨A9, c9, rfl, hc9', hC9, hR9, hB9⟩
          have HC69 := Aside0.mk (Kd.C_below HC64.out hB9.out)
          go_wp2_with fail
          refine (texts_q A9 A6 c9 c6 W q6 q6 HQ6.out HQ6.out w9 hC9.out hc9' HC69.out hc6 (by omega)).mono ?_
          rintro e w10 ⟨rfl, hB10⟩
          go_wp2_with fail
          refine (left_none w4.heap.size g w10 (hR9.out.below hB10.out)).mono ?_
          rintro e w11 ⟨rfl, rfl⟩
          go_wp2
          go_ret
          exact ⟨rfl, below_then HBW4.out HBW4.out.size (below_then hB9.out hB9.out.size hB10.out)⟩)
      | false =>
        rcases hcs with hc9 | ⟨hc8, hc9⟩
        all_goals (
          obtain ⟨cap1, w2, hcv1, hcap1, hC1, hN1, hB1, hBW1⟩ := conv_row w wr HB.out (L ++ (⟨#[10]⟩ : ByteArray)) (catW (n + 1) W ++ [10]) (by rw [ByteArray.data_append, Array.toList_append, HLe.out]) (L.size + 1) (by rw [ByteArray.size_append]; rfl) (by omega)
          go_wp2_with fail
          refine (next_q w _ _ cap1 w2 HL.out hBW1.out (L.size + 1) hN1 hC1.out hcap1 (by omega) W ((L.size : Int) + 1) 0 (by rw [nextB_U, U_NB]; have h9 := HONE.out [10] (.inl rfl); rw [h9, HLs.out]; rfl) q6 HQ6.out).mono ?_
          rintro e w3 ⟨A3, c3, rfl, hc3, hC3, hBW3, hB3⟩
          have HO3 := Aside0.mk (Kd.R_below (Kd.R_below HO.out hB1.out) hB3.out)
          obtain ⟨hqq, hc6, hC6⟩ := Kd.R_reads' HO3.out
          clear hqq
          have HC6 := Aside0.mk hC6
          clear hC6
          go_wp2_with fail
          refine (texts_q A3 A6 c3 c6 W q6 q6 HQ6.out HQ6.out w3 hC3.out hc3.out HC6.out hc6 (by omega)).mono ?_
          rintro e w4 ⟨rfl, hB4⟩
          have HBW4 := Aside0.mk (below_then hBW3.out hBW3.out.size hB4.out)
          have HC64 := Aside0.mk (Kd.C_below HC6.out hB4.out)
          go_wp2_with fail
          refine (new_any w4).mono ?_
          rintro e w6 ⟨rfl, hw6⟩
          have HR6 := Aside0.mk (rd_new w4)
          rw [← hw6] at HR6
          have HB6 := Aside0.mk (show Below w4.heap.size w4 w6 by rw [hw6]; exact below_alloc (Below.refl _ _) _)
          obtain ⟨g, hg⟩ : ∃ g, w4.heap.size = g := ⟨_, rfl⟩
          have HGg := Aside0.mk hg
          have hHR6 := HR6.out
          rw [hg] at hHR6 ⊢
          rw [← hg] at hHR6
          clear hw6 hg hHR6
          obtain ⟨cap2, w7, hcv2, hcap2, hC2, hN2, hB7, hBW7⟩ := conv_row w4 w6 HB6.out ((⟨#[10]⟩ : ByteArray) ++ (⟨#[32, 32]⟩ : ByteArray) ++ (⟨#[10]⟩ : ByteArray) ++ L ++ (⟨#[10]⟩ : ByteArray)) ([10] ++ [32, 32] ++ [10] ++ catW (n + 1) W ++ [10]) (by simp only [ByteArray.data_append, Array.toList_append, HLe.out]) (L.size + 5) (by simp only [ByteArray.size_append]; show 1 + 2 + 1 + L.size + 1 = _; omega) (by omega)
          go_wp2_with fail
          refine (feed_p w4 g _ _ cap2 [] w7 (Nat.le_of_eq HGg.out) hBW7.out (HGg.out ▸ HR6.out.below hB7.out) hC2.out (L.size + 5) hN2 hcap2 (by simp; omega)).mono ?_
          rintro e w8 ⟨rfl, hR8, hB8⟩
          go_wp2_with fail
          refine (next_w w4 (HL.out.below HBW4.out) g _ w8 (Nat.le_of_eq HGg.out) hB8.out hR8.out (by rw [List.nil_append, hN2]; omega) W q6 HQ6.out (decide ((0 : Int) < (q6 : Int))) (by rw [List.nil_append, U_NB, hN2, show L.size + 5 + 1 = L.size + 2 + 4 by omega, HTWO.out [10] (.inl rfl) (L.size + 2), HNE.out])).mono ?_
          rintro e w9 ⟨A9, c9, rfl, hc9', hC9, hR9, hB9⟩
          have HC69 := Aside0.mk (Kd.C_below HC64.out hB9.out)
          go_wp2_with fail
          refine (texts_q A9 A6 c9 c6 W q6 q6 HQ6.out HQ6.out w9 hC9.out hc9' HC69.out hc6 (by omega)).mono ?_
          rintro e w10 ⟨rfl, hB10⟩
          go_wp2_with fail
          refine (left_none w4.heap.size g w10 (hR9.out.below hB10.out)).mono ?_
          rintro e w11 ⟨rfl, rfl⟩
          go_wp2
          go_ret
          exact ⟨rfl, below_then HBW4.out HBW4.out.size (below_then hB9.out hB9.out.size hB10.out)⟩)
end Go.Proofs.YtmbfapgamcbajaaDoor.X
