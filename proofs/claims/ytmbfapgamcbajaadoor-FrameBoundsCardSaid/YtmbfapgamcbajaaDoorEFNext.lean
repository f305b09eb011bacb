/- frame.Next: what its text computes. -/
import Derived.Test.YtmbfapgamcbajaaDoorEFRow2
import Derived.Test.YtmbfapgamcbajaaDoorEFPre
import Derived.Lib.SlBytesConst
set_option linter.unusedVariables false
set_option linter.unusedSimpArgs false
namespace Go.Proofs.YtmbfapgamcbajaaDoor.X
open Go.RowKit Go.Proofs.YtmbfapgamcbajaaDoorW.PrintWords

theorem lit_bytes (w : World) (xs : List Int) (fr : Nat × Nat) (hm : xs.length ≤ 9223372036854775807) : BC (w.alloc (.cells (xs.map (Value.int .u8)).toArray 5 fr)) (some ⟨w.heap.size, 0, none⟩) xs := by
  refine Kd.C_of_reads (d := (0 : Int)) (h1 := fun _ => rfl) ⟨rfl, hm, fun _ => ⟨_, rfl, fun j hj => ?_⟩⟩
  rw [add_plain]
  have hh : (w.alloc (.cells (xs.map (Value.int .u8)).toArray 5 fr)).heap[w.heap.size]? = some (.cells (xs.map (Value.int .u8)).toArray 5 fr) := by
    show (w.heap.push _)[w.heap.size]? = _
    simp
  unfold World.cell?
  dsimp only
  rw [hh]
  simp [hj]

/-- What stands between blanks. -/
def piecesOf (T : ByteArray) : List ByteArray := Go.Lib.splitB ⟨#[32]⟩ 0 (Go.Lib.countB T ⟨#[32]⟩) T
def someB (s : ByteArray) : Bool := s.toList != []
def lineOf (s : List Int) : ByteArray := ⟨(Go.Lib.trimSuffix (strOfNums s).data.toList [13]).toArray⟩
def starts (b : List Int) : Bool := decide (1 ≤ b.length) && (strOfNums (b.take 1)).toList == [42]

def nextB (b : List Int) : List ByteArray × Int × Int :=
  if starts b = true then rowB b
  else if endOf (b.take 600) < 0 then (if b.length < 600 then ([], 0, 0) else ([], 0, 10))
  else if 32 < ((piecesOf (lineOf (b.take (endOf (b.take 600)).toNat))).filter someB).length then ([], 0, 10)
  else ((piecesOf (lineOf (b.take (endOf (b.take 600)).toNat))).filter someB, endOf (b.take 600) + 1, 0)

theorem pre_star (w : World) (A0 : Option Addr) (c0 : Nat) (l0 : List Int) (h0 : BC w A0 l0) (hc0 : l0.length ≤ c0) (c : Nat) (hc : 1 ≤ c) (A1 : Option Addr) (h1 : BC w A1 [42]) (r : Bool) (hr : Aside0 (starts l0 = r)) :
    Calls Tryd.prog 25 #[.slice A0 l0.length c0, .slice A1 1 c] w fun e w' => e = .returned (.bool r) ∧ Drawn0 w w' := by
  refine bytes_HasPrefix.calls A0 c0 l0 A1 c [42] r w h0 hc0 h1 hc ?_
  rw [← hr.out]
  unfold bytes_HasPrefix.f starts
  have e : (strOfNums [42]).toList = [42] := by rw [Lib.strOfNums_toList]; rfl
  rw [e]
  rfl

set_option maxHeartbeats 8000000 in
set_option maxRecDepth 100000 in
theorem next_star (A : Option Addr) (b : List Int) (c : Nat) (w : World) (hLd : Ld w) (hb : BC w A b) (hc : b.length ≤ c) (hlen : b.length ≤ 1000000) (hst : starts b = true) (r1 : List ByteArray) (r2 r3 : Int) (hr : rowB b = (r1, r2, r3)) :
    Calls Tryd.prog 11 #[.slice A b.length c] w fun e w' => ∃ v0_ : Value, e = .returned (.tuple #[v0_, .int .i64 r2, .int .i64 r3]) ∧ Kd.R Kd.string 9 w' w.heap.size (fun _ => True) v0_ r1 ∧ Below w.heap.size w w' := by
  have HL := Aside0.mk hLd
  have HBC := Aside0.mk hb
  have HR := Aside0.mk hr
  have HS := Aside0.mk hst
  clear hLd hb hr hst
  have kc := fun (w : World) (C : Array Value) (n c : Nat) => Lib.run_convert_bytes_const (P := Tryd.prog) w 22 5 C n c Tryd.underlying22 Tryd.underlying5
  have HLT := Aside0.mk (lit_bytes w [42] (1, 2) (by simp))
  have hb1 : Below w.heap.size w (w.alloc (.cells #[.int .u8 42] 5 (1, 2))) := below_alloc (Below.refl _ _) _
  have HB1 := Aside0.mk hb1
  clear hb1
  go_enter Tryd.func11, Tryd.ntmps11
  go_wp2_with (go_at_call 25; refine (pre_star _ A c b (Kd.C_below HBC.out HB1.out) hc 1 (Nat.le_refl _) _ HLT.out true HS).mono ?_; rintro e w1 ⟨rfl, hd⟩; have HB2 := Aside0.mk (below_then HB1.out HB1.out.size hd.below); clear hd)
  refine (row_walk A b c _ (HL.out.below HB2.out) (Kd.C_below HBC.out HB2.out) hc hlen r1 r2 r3 HR.out).mono ?_
  rintro e w2 ⟨v0, rfl, hR, hB⟩
  have HB3 := Aside0.mk (below_then HB2.out HB2.out.size hB)
  have HR3 := Aside0.mk (Kd.R_lower hR HB2.out.size)
  clear hR hB
  go_wp2
  go_ret3
  exact ⟨_, rfl, HR3.out, HB3.out⟩

theorem splits (T : ByteArray) (w : World) (hLd : Ld w) (h : T.size ≤ 1000000) :
    Calls Tryd.prog 28 #[.string T, .string ⟨#[32]⟩] w fun e w' => ∃ v0_ : Value, e = .returned v0_ ∧ Kd.R Kd.string 9 w' w.heap.size (fun _ => True) v0_ (piecesOf T) ∧ Below w.heap.size w w' := by
  refine strings_Split.calls T ⟨#[32]⟩ (piecesOf T) w hLd ?_
  unfold strings_Split.f
  rw [if_pos ⟨by omega, rfl⟩]
  rfl

theorem pieces_le (T : ByteArray) : (piecesOf T).length ≤ T.size + 1 := by
  have hlen := Lib.splitB_all ⟨#[32]⟩ (by decide) 0 _ T rfl
  have hle := Lib.countB_le ⟨#[32]⟩ (by decide) T.size T (Nat.le_refl _)
  unfold piecesOf
  omega

theorem idx10b (A : Option Addr) (m c : Nat) (xs : List Int) (w : World) (h : BC w A xs) (hm : m = xs.length) (n : Int) (hn : Aside0 (endOf xs = n)) :
    Calls Tryd.prog 27 #[.slice A m c, .int .u8 ((({ data := #[10] } : ByteArray)[0]'(by decide)).toNat : Int)] w fun e w' => e = .returned (.int .i64 n) ∧ w' = w := by
  subst hm
  exact idx10 A c xs w h n hn

set_option maxHeartbeats 8000000 in
set_option maxRecDepth 100000 in
theorem next_none (A : Option Addr) (b : List Int) (c : Nat) (w : World) (hb : BC w A b) (hc : b.length ≤ c) (hlen : b.length ≤ 1000000) (hst : starts b = false) (hn : endOf (b.take 600) < 0) :
    Calls Tryd.prog 11 #[.slice A b.length c] w fun e w' => e = .returned (.tuple #[.slice none 0 0, .int .i64 0, .int .i64 (if b.length < 600 then 0 else 10)]) ∧ Below w.heap.size w w' := by
  obtain ⟨m, hm⟩ : ∃ m, m = min b.length 600 := ⟨_, rfl⟩
  obtain ⟨cut2, bc2, hc2⟩ := cut_take A c b (m : Int) (by omega) (by omega) hc
  simp only [Int.toNat_natCast] at cut2 bc2 hc2
  obtain ⟨s2, hs2⟩ : ∃ s2, s2 = b.take m := ⟨_, rfl⟩
  have hn2 : endOf s2 < 0 := by
    rw [hs2, hm]
    have : b.take (min b.length 600) = b.take 600 := by
      rw [List.take_eq_take_iff]
      omega
    rw [this]
    exact hn
  rw [← hs2] at cut2 bc2 hc2
  obtain ⟨n, hn3⟩ : ∃ n, endOf s2 = n := ⟨_, rfl⟩
  rw [hn3] at hn2
  have HN := Aside0.mk hn3
  have HBC := Aside0.mk hb
  have HS := Aside0.mk hst
  have HM := Aside0.mk hm
  clear hs2 hn3 hb hst hn hm
  have kc := fun (w : World) (C : Array Value) (n c : Nat) => Lib.run_convert_bytes_const (P := Tryd.prog) w 22 5 C n c Tryd.underlying22 Tryd.underlying5
  have HLT := Aside0.mk (lit_bytes w [42] (1, 2) (by simp))
  have hb1 : Below w.heap.size w (w.alloc (.cells #[.int .u8 42] 5 (1, 2))) := below_alloc (Below.refl _ _) _
  have HB1 := Aside0.mk hb1
  clear hb1
  by_cases hsh : b.length < 600
  · have hd : ((b.length : Int) < 600) := by omega
    rw [if_pos hsh]
    clear hsh
    go_enter Tryd.func11, Tryd.ntmps11
    go_wp2_with (go_at_call 25; refine (pre_star _ A c b (Kd.C_below HBC.out HB1.out) hc 1 (Nat.le_refl _) _ HLT.out false HS).mono ?_; rintro e w1 ⟨rfl, hd⟩; have HB2 := Aside0.mk (below_then HB1.out HB1.out.size hd.below); clear hd)
    have hmin : min (b.length : Int) 600 = (m : Int) := by have := HM.out; omega
    go_quiet ((go_at_call 27; exact Calls.quiet_of_same (idx10b A _ c s2 _ (Kd.C_drewN (bc2 _ (Kd.C_below HBC.out HB2.out)) _) rfl n HN)))
    clear hmin
    go_wp2
    go_ret3
    exact ⟨rfl, pw_below_drewN HB2.out _⟩
  · have hd : ¬ ((b.length : Int) < 600) := by omega
    rw [if_neg hsh]
    clear hsh
    go_enter Tryd.func11, Tryd.ntmps11
    go_wp2_with (go_at_call 25; refine (pre_star _ A c b (Kd.C_below HBC.out HB1.out) hc 1 (Nat.le_refl _) _ HLT.out false HS).mono ?_; rintro e w1 ⟨rfl, hd⟩; have HB2 := Aside0.mk (below_then HB1.out HB1.out.size hd.below); clear hd)
    have hmin : min (b.length : Int) 600 = (m : Int) := by have := HM.out; omega
    go_quiet ((go_at_call 27; exact Calls.quiet_of_same (idx10b A _ c s2 _ (Kd.C_drewN (bc2 _ (Kd.C_below HBC.out HB2.out)) _) rfl n HN)))
    clear hmin
    go_wp2
    go_ret3
    exact ⟨rfl, pw_below_drewN HB2.out _⟩

set_option maxHeartbeats 8000000 in
set_option maxRecDepth 100000 in
theorem next_line (A : Option Addr) (b : List Int) (c : Nat) (w : World) (hLd : Ld w) (hb : BC w A b) (hc : b.length ≤ c) (hlen : b.length ≤ 1000000) (hst : starts b = false) (hn0 : 0 ≤ endOf (b.take 600)) (hn9 : endOf (b.take 600) < b.length) (l : List ByteArray) (hl : (piecesOf (lineOf (b.take (endOf (b.take 600)).toNat))).filter someB = l) (n : Int) (hn : endOf (b.take 600) = n) (R : Value → Value) (hR : (32 < l.length ∧ R = fun _ => .tuple #[.slice none 0 0, .int .i64 0, .int .i64 10]) ∨ (¬ 32 < l.length ∧ R = fun v => .tuple #[v, .int .i64 (n + 1), .int .i64 0])) :
    Calls Tryd.prog 11 #[.slice A b.length c] w fun e w' => ∃ v0_ : Value, e = .returned (R v0_) ∧ Kd.R Kd.string 9 w' w.heap.size (fun _ => True) v0_ l ∧ Below w.heap.size w w' := by
  rw [hn] at hn0 hn9 hl
  have HRR := Aside0.mk hR
  clear hR
  obtain ⟨m, hm⟩ : ∃ m, m = min b.length 600 := ⟨_, rfl⟩
  obtain ⟨cut2, bc2, hc2⟩ := cut_take A c b (m : Int) (by omega) (by omega) hc
  obtain ⟨cut3, bc3, hc3⟩ := cut_take A c b n (by omega) (by omega) hc
  simp only [Int.toNat_natCast] at cut2 bc2 hc2
  obtain ⟨s2, hs2⟩ : ∃ s2, s2 = b.take m := ⟨_, rfl⟩
  have hn2 : endOf s2 = n := by
    rw [hs2, hm]
    have : b.take (min b.length 600) = b.take 600 := by
      rw [List.take_eq_take_iff]
      omega
    rw [this]
    exact hn
  rw [← hs2] at cut2 bc2 hc2
  obtain ⟨s3, hs3⟩ : ∃ s3, s3 = b.take n.toNat := ⟨_, rfl⟩
  rw [← hs3] at cut3 bc3 hc3 hl
  have hs3l : s3.length ≤ 1000000 := by rw [hs3, List.length_take]; omega
  obtain ⟨T, hT⟩ : ∃ T, T = strOfNums s3 := ⟨_, rfl⟩
  obtain ⟨L, hL⟩ : ∃ L, L = lineOf s3 := ⟨_, rfl⟩
  have hTs : T.size ≤ 1000000 := by rw [hT, strNums_size]; exact hs3l
  have hLs : L.size ≤ 1000000 := by
    rw [hL]
    unfold lineOf Lib.trimSuffix
    have : (strOfNums s3).data.toList.length ≤ 1000000 := by rw [data_length, ← hT]; exact hTs
    show Array.size _ ≤ _
    split <;> simp <;> simp at this <;> omega
  have hLT : (⟨(Lib.trimSuffix T.data.toList [13]).toArray⟩ : ByteArray) = L := by rw [hL, hT]; rfl
  rw [← hL] at hl
  obtain ⟨ps, hps⟩ : ∃ ps, ps = piecesOf L := ⟨_, rfl⟩
  have hpl : ps.length ≤ 1000001 := by rw [hps]; have := pieces_le L; omega
  have HSp := Aside0.mk (fun W h => splits L W h hLs)
  simp only [← hps] at HSp
  rw [← hps] at hl
  have HTr := Aside0.mk (fun W => Tryd.strings_TrimSuffix T ⟨#[13]⟩ W (by omega))
  simp only [hLT] at HTr
  have HCV := Aside0.mk (fun W (h : BC W A s3) => cut_text W A c s3 h)
  simp only [← hT] at HCV
  have HN := Aside0.mk hn2
  have HBC := Aside0.mk hb
  have HS := Aside0.mk hst
  have HM := Aside0.mk hm
  have HLd := Aside0.mk hLd
  have HL := Aside0.mk hl
  have HP := Aside0.mk hpl
  clear hs2 hs3 hn2 hb hst hn hm hLd hl hT hL hTs hLs hLT hps hpl
  have kc := fun (w : World) (C : Array Value) (n c : Nat) => Lib.run_convert_bytes_const (P := Tryd.prog) w 22 5 C n c Tryd.underlying22 Tryd.underlying5
  have HLT := Aside0.mk (lit_bytes w [42] (1, 2) (by simp))
  have hb1 : Below w.heap.size w (w.alloc (.cells #[.int .u8 42] 5 (1, 2))) := below_alloc (Below.refl _ _) _
  have HB1 := Aside0.mk hb1
  clear hb1
  go_enter Tryd.func11, Tryd.ntmps11
  go_wp2_with (go_at_call 25; refine (pre_star _ A c b (Kd.C_below HBC.out HB1.out) hc 1 (Nat.le_refl _) _ HLT.out false HS).mono ?_; rintro e w1 ⟨rfl, hd⟩; have HB2 := Aside0.mk (below_then HB1.out HB1.out.size hd.below); clear hd)
  have hmin : min (b.length : Int) 600 = (m : Int) := by have := HM.out; omega
  go_quiet ((go_at_call 27; exact Calls.quiet_of_same (idx10b A _ c s2 _ (Kd.C_drewN (bc2 _ (Kd.C_below HBC.out HB2.out)) _) rfl n HN)))
  clear hmin
  have hcv := fun k => HCV.out _ (Kd.C_drewN (bc3 _ (Kd.C_below HBC.out HB2.out)) k)
  go_wp2_with (first | (go_at_call 29; refine (HTr.out _).mono ?_; rintro e w' ⟨rfl, rfl⟩) | (go_at_call 28; refine (HSp.out _ ((HLd.out.below HB2.out).drewN _)).mono ?_; rintro e w2 ⟨v0, rfl, hR, hB⟩; obtain ⟨A2, c2, e0⟩ := Kd.R_slice hR; subst e0; have HPS := Aside0.mk (Kd.R_reads' hR).2.2; have HB3 := Aside0.mk (below_then (pw_below_drewN HB2.out _) HB2.out.size hB); clear hR hB))
  go_loopw [6, 8, 37] (fun v6 _ v37 wr => ∃ k : Nat, k ≤ ps.length ∧ v37 = .int .i64 k ∧ Aside0 (Kd.R Kd.string 9 wr w2.heap.size (fun _ => True) v6 ((ps.take k).filter someB)) ∧ Aside0 (Below w2.heap.size w2 wr)) (fun _ _ v37 _ => ps.length - (intOf v37).toNat)
  case atStart => exact ⟨0, Nat.zero_le _, rfl, ⟨Kd.R_nil _ _ _ _ _⟩, ⟨Below.refl _ _⟩⟩
  case round =>
    obtain ⟨k, hk, rfl, HR, HB4⟩ := hrel
    have hpl := HP.out
    by_cases hlt : k < ps.length
    · obtain ⟨ad, e0, hc⟩ := (Kd.reads_of_C (d := ByteArray.empty) HPS.out).2.2 (by omega)
      subst e0
      have hc1 := (HB4.out.cell (World.block_lt_of_cell? w2 _ (hc k hlt))).trans (hc k hlt)
      obtain ⟨s, hs⟩ : ∃ s, ps.getD k ByteArray.empty = s := ⟨_, rfl⟩
      rw [hs] at hc1
      have htk : ps.take (k + 1) = ps.take k ++ [s] := by
        rw [List.take_succ_eq_append_getElem hlt, ← hs, List.getD_eq_getElem?_getD, List.getElem?_eq_getElem hlt]
        rfl
      have HT := Aside0.mk htk
      clear hc hs htk
      have hfl : ((ps.take k).filter someB).length ≤ 1000001 := Nat.le_trans (List.length_filter_le _ _) (by rw [List.length_take]; omega)
      have HF := Aside0.mk hfl
      clear hfl
      have hkI : (k : Int) < ps.length := by omega
      by_cases hsb : s.toList = []
      · have h1 : (s.toList != []) = false := by rw [hsb]; rfl
        have HSB := Aside0.mk h1
        go_wp2
        go_roundw
        case rel =>
          refine ⟨k + 1, by omega, by go_num, ⟨?_⟩, HB4⟩
          rw [HT.out, List.filter_append]
          have : [s].filter someB = [] := by simp [someB, HSB.out]
          rw [this, List.append_nil]
          exact HR.out
        case measure => simp [intOf]; omega
      · have h1 : (s.toList != []) = true := bne_iff_ne.2 hsb
        have h2 : (!s.toList.isEmpty) = true := by cases hq : s.toList with
          | nil => exact absurd hq hsb
          | cons => rfl
        have HSB := Aside0.mk h1
        go_wp2_with (at_builtin; refine Kd.R_append Kd.string (w0 := w2) w2.heap.size rfl (.tmp 43) (.tmp 45) 25 9 (.string ⟨#[]⟩) 16 rfl Tryd.underlying25 infoS rfl (by decide) (by omega) _ _ s [.string s] (fun _ => True) (fun _ => False) rfl rfl rfl (fun _ hk => hk.elim) (fun _ _ => trivial) HR.out HB4.out HB4.out.size (by have := HF.out; omega) ?_; intro v1 w3 ho hb hgr hat; have HO3 := Aside0.mk ho; have HB5 := Aside0.mk hb; have HG5 := Aside0.mk hgr; clear ho hb hgr hat)
        go_roundw
        case rel =>
          refine ⟨k + 1, by omega, by go_num, ⟨?_⟩, HB5⟩
          rw [HT.out, List.filter_append]
          have : [s].filter someB = [s] := by simp [someB, HSB.out]
          rw [this]
          exact HO3.out
        case measure => simp [intOf]; omega
    · obtain rfl : k = ps.length := by omega
      rw [List.take_length, HL.out] at HR
      have hkI : ¬ ((ps.length : Int) < ps.length) := by omega
      obtain ⟨A6, c6, e6⟩ := Kd.R_slice HR.out
      subst e6
      have HRl := Aside0.mk (Kd.R_lower HR.out HB3.out.size)
      have HBl := Aside0.mk (below_then HB3.out HB3.out.size HB4.out)
      clear HR HB4
      rcases HRR.out with ⟨h32, rfl⟩ | ⟨h32, rfl⟩
      · have hd : (32 : Int) < l.length := by omega
        clear h32 HRR
        go_wp2
        go_ret3
        exact ⟨rfl, ⟨_, HRl.out⟩, HBl.out⟩
      · have hd : ¬ (32 : Int) < l.length := by omega
        clear h32 HRR
        go_wp2
        go_ret3
        exact ⟨_, rfl, HRl.out, HBl.out⟩

theorem end_take (b : List Int) (m : Nat) : endOf (b.take m) < 0 ∨ (0 ≤ endOf (b.take m) ∧ endOf (b.take m) < b.length) := by
  have := end_lt (b.take m)
  rw [List.length_take] at this
  rcases this with h | ⟨_, h⟩ <;> omega

/-- frame.Next is nextB. -/
theorem next_any (A : Option Addr) (b : List Int) (c : Nat) (w : World) (hLd : Ld w) (hb : BC w A b) (hc : b.length ≤ c) (hlen : b.length ≤ 1000000) (r1 : List ByteArray) (r2 r3 : Int) (hr : nextB b = (r1, r2, r3)) :
    Calls Tryd.prog 11 #[.slice A b.length c] w fun e w' => ∃ v0_ : Value, e = .returned (.tuple #[v0_, .int .i64 r2, .int .i64 r3]) ∧ Kd.R Kd.string 9 w' w.heap.size (fun _ => True) v0_ r1 ∧ Below w.heap.size w w' := by
  unfold nextB at hr
  by_cases hs : starts b = true
  · rw [if_pos hs] at hr
    exact next_star A b c w hLd hb hc hlen hs r1 r2 r3 hr
  · rw [if_neg hs] at hr
    have hs' : starts b = false := by simpa using hs
    rcases end_take b 600 with h | ⟨h0, h1⟩
    · rw [if_pos h] at hr
      refine (next_none A b c w hb hc hlen hs' h).mono ?_
      rintro e w' ⟨rfl, hB⟩
      by_cases h6 : b.length < 600
      · rw [if_pos h6] at hr ⊢
        obtain ⟨rfl, h5⟩ := Prod.mk.inj hr
        obtain ⟨rfl, rfl⟩ := Prod.mk.inj h5
        exact ⟨_, rfl, Kd.R_nil _ _ _ _ _, hB⟩
      · rw [if_neg h6] at hr ⊢
        obtain ⟨rfl, h5⟩ := Prod.mk.inj hr
        obtain ⟨rfl, rfl⟩ := Prod.mk.inj h5
        exact ⟨_, rfl, Kd.R_nil _ _ _ _ _, hB⟩
    · rw [if_neg (by omega)] at hr
      by_cases h32 : 32 < ((piecesOf (lineOf (b.take (endOf (b.take 600)).toNat))).filter someB).length
      · rw [if_pos h32] at hr
        refine (next_line A b c w hLd hb hc hlen hs' h0 h1 _ rfl _ rfl _ (.inl ⟨h32, rfl⟩)).mono ?_
        rintro e w' ⟨v0, rfl, hR, hB⟩
        obtain ⟨rfl, h5⟩ := Prod.mk.inj hr
        obtain ⟨rfl, rfl⟩ := Prod.mk.inj h5
        exact ⟨_, rfl, Kd.R_nil _ _ _ _ _, hB⟩
      · rw [if_neg h32] at hr
        refine (next_line A b c w hLd hb hc hlen hs' h0 h1 _ rfl _ rfl _ (.inr ⟨h32, rfl⟩)).mono ?_
        rintro e w' ⟨v0, rfl, hR, hB⟩
        obtain ⟨rfl, h5⟩ := Prod.mk.inj hr
        obtain ⟨rfl, rfl⟩ := Prod.mk.inj h5
        exact ⟨_, rfl, hR, hB⟩
end Go.Proofs.YtmbfapgamcbajaaDoor.X
