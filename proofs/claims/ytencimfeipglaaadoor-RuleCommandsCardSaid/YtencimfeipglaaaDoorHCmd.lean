/- RuleCommands: its walk, by hand, over the contracts. -/
import Derived.Test.YtencimfeipglaaaDoorERule
import Derived.Test.YtencimfeipglaaaDoorXx2
import Derived.Test.YtencimfeipglaaaDoorXx10
import Derived.Test.YtencimfeipglaaaDoorXx1
import Derived.Test.YtencimfeipglaaaDoorELaidRule
import Derived.Deep.QuietTactic
set_option linter.unusedVariables false
set_option linter.unusedSimpArgs false
namespace Go.Proofs.YtencimfeipglaaaDoor.X
open Go.RowKit Go.Lib Go.Proofs.YtencimfeipglaaaDoorW.PrintWords Go.Proofs.YtencimfeipglaaaDoorW.PrintLast Go.Proofs.YtencimfeipglaaaDoorW.PrintMore

/-! What the words are. -/
def chk (x : RT) (k m : Int) : Bool := x.1 == k && x.2.1.data.toList == [] && !x.2.2.1 && !x.2.2.2.1 && x.2.2.2.2.1 == m && x.2.2.2.2.2
theorem chk_eq {x : RT} {k m : Int} (h : chk x k m = true) : x = (k, ⟨#[]⟩, false, false, m, true) := by
  obtain ⟨a, b, c, d, e, f⟩ := x
  unfold chk at h
  simp only [Bool.and_eq_true, beq_iff_eq, Bool.not_eq_true'] at h
  obtain ⟨⟨⟨⟨⟨h1, h2⟩, h3⟩, h4⟩, h5⟩, h6⟩ := h
  subst h1 h3 h4 h5 h6
  have : b = ⟨#[]⟩ := str_ext' (by rw [h2])
  subst this
  rfl
def nmI (i : Nat) : ByteArray := (cmdsL.getD i z31).f0
theorem cmd_plus : ∀ i : Fin 56, chk (ruleB (⟨#[43]⟩ ++ nmI i.val)) 8 (shl .u64 1 (i.val : Int)) = true := by decide +kernel
theorem cmd_minus : ∀ i : Fin 56, chk (ruleB (⟨#[45]⟩ ++ nmI i.val)) 9 (shl .u64 1 (i.val : Int)) = true := by decide +kernel
theorem cmd_x : ∀ i : Fin 56, (ruleB ((⟨#[43]⟩ ++ nmI i.val) ++ ⟨#[120]⟩)).2.2.2.2.2 = false := by decide +kernel
theorem cmd_cat : ∀ i : Fin 56, (ruleB (⟨#[43, 64]⟩ ++ nmI i.val)).2.2.2.2.2 = (catB (nmI i.val)).2 := by decide +kernel
theorem cmd_size : ∀ i : Fin 56, (nmI i.val).size ≤ 20 := by decide +kernel
def catsA : List ByteArray := ((tipstaffref07_Cats.f).getD []) ++ [⟨#[97, 108, 108]⟩]
def ctI (j : Nat) : ByteArray := catsA.getD j ByteArray.empty
theorem ct_plus : ∀ j : Fin 13, chk (ruleB (⟨#[43, 64]⟩ ++ ctI j.val)) 8 (catB (ctI j.val)).1 = true := by decide +kernel
theorem ct_minus : ∀ j : Fin 13, chk (ruleB (⟨#[45, 64]⟩ ++ ctI j.val)) 9 (catB (ctI j.val)).1 = true := by decide +kernel
theorem ct_size : ∀ j : Fin 13, (ctI j.val).size ≤ 20 := by decide +kernel
theorem all_chk : chk (ruleB ⟨#[97, 108, 108, 99, 111, 109, 109, 97, 110, 100, 115]⟩) 8 72057594037927935 = true := by decide +kernel
def chkz (x : RT) : Bool := x.1 == 0 && x.2.1.data.toList == [] && !x.2.2.1 && !x.2.2.2.1 && x.2.2.2.2.1 == 0 && !x.2.2.2.2.2
theorem chkz_eq {x : RT} (h : chkz x = true) : x = (0, ⟨#[]⟩, false, false, 0, false) := by
  obtain ⟨a, b, c, d, e, f⟩ := x
  unfold chkz at h
  simp only [Bool.and_eq_true, beq_iff_eq, Bool.not_eq_true'] at h
  obtain ⟨⟨⟨⟨⟨h1, h2⟩, h3⟩, h4⟩, h5⟩, h6⟩ := h
  subst h1 h3 h4 h5 h6
  have : b = ⟨#[]⟩ := str_ext' (by rw [h2])
  subst this
  rfl
theorem cmd_xz : ∀ i : Fin 56, chkz (ruleB ((⟨#[43]⟩ ++ nmI i.val) ++ ⟨#[120]⟩)) = true := by decide +kernel
theorem ct_cat : ∀ j : Fin 13, tipstaffref07_Cat.f 200 (ctI j.val) = some ((catB (ctI j.val)).1, true) := by decide +kernel
def tipstaffref07_At.f (a0 : Int) : Option (ByteArray × Int × Int × Bool) := if 0 ≤ a0 ∧ a0 < 56 then some ((rd_T31 cmdsL a0).f0, (rd_T31 cmdsL a0).f1, (rd_T31 cmdsL a0).f2, true) else none
set_option maxHeartbeats 2000000 in
set_option maxRecDepth 100000 in
theorem tipstaffref07_At.calls (a0 : Int) (r1 : ByteArray) (r2 : Int) (r3 : Int) (r4 : Bool) (w : World) (h : tipstaffref07_At.f a0 = some (r1, r2, r3, r4)) :
    Calls Tryd.prog 17 #[.int .i64 a0] w fun e w' => e = .returned (.tuple #[.agg #[.string r1, .int .i64 r2, .int .u16 r3], .bool r4]) ∧ Below w.heap.size w w' := by
  unfold tipstaffref07_At.f at h
  split at h
  · rename_i hh
    obtain ⟨h0, h1⟩ := hh
    simp only [Option.some.injEq, Prod.mk.injEq] at h
    obtain ⟨e1, e2, e3, rfl⟩ := h
    obtain ⟨w0, hw0, HB0, HC0⟩ := named_al w #[.string ⟨#[]⟩, .int .i64 0, .int .u16 0] 31
    obtain ⟨L, hL⟩ : ∃ L, cmdsL = L := ⟨_, rfl⟩
    have hlen : L.length = 56 := by rw [← hL]; exact cmds_len
    simp only [hL] at e1 e2 e3
    have hn : ¬ a0 < 0 := by omega
    have HE := Aside0.mk (And.intro e1 (And.intro e2 e3))
    have HLn := Aside0.mk hlen
    have HI := Aside0.mk (And.intro h0 h1)
    clear e1 e2 e3 h0 h1
    have hle := Aside0.mk (Nat.le_refl w.heap.size)
    go_enter Tryd.func17, Tryd.ntmps17
    go_wp2_with fail
    refine (tipstaffref07_All.calls L _ (show tipstaffref07_All.f = some L by rw [← hL]; rfl)).mono ?_
    rintro e w1 ⟨v0, rfl, hR, hb⟩
    obtain ⟨A, c, e0⟩ := Kd.R_slice hR
    subst e0
    have hI := HI.out
    have hl := HLn.out
    obtain ⟨ad, e0, hc0, hc1, hc2⟩ := at_T31 (Kd.R_reads' hR).2.2 a0 hI.1 (by omega)
    subst e0
    rw [HE.out.1] at hc0
    rw [HE.out.2.1] at hc1
    rw [HE.out.2.2] at hc2
    have HG := Aside0.mk ((hb.block w.heap.size (pw_lt HC0.out)).trans HC0.out)
    have HB := Aside0.mk (below_then HB0.out HB0.out.size hb)
    have z0 := (pw_cells HG.out 0).1
    have z1 := (pw_cells HG.out 1).1
    have z2 := (pw_cells HG.out 2).1
    have f0 := (pw_cells HG.out 0).2
    have f1 := (pw_cells HG.out 1).2
    have f2 := (pw_cells HG.out 2).2
    have hge : ¬ ((L.length : Int) ≤ a0) := by omega
    have hlt : a0 < (L.length : Int) := by omega
    have h0 := hI.1
    have hu := Tryd.underlying31
    clear hR hb hI hl
    go_wp2
    refine bodyPost_ret (results_ct rfl _ _ w.heap.size 31 #[.string r1, .int .i64 r2, .int .u16 r3] (0, 0) _ rfl (set3 HG.out _ _ _) Tryd.underlying31 rfl (by kernel_rfl)) rfl ?_
    exact ⟨rfl, below_set (below_set (below_set HB.out (Nat.le_refl _)) (Nat.le_refl _)) (Nat.le_refl _)⟩
  · cases h
theorem at_cmd (i : Nat) (hi : i < 56) : tipstaffref07_At.f (i : Int) = some (nmI i, (cmdsL.getD i z31).f1, (cmdsL.getD i z31).f2, true) := by
  unfold tipstaffref07_At.f
  rw [if_pos ⟨by omega, by omega⟩]
  rfl
theorem shown17c : tipstafflaw17_shown.f = some true := by kernel_rfl

theorem shl_one (t : TypeId) (i : Nat) : binOp .shl t (.int .u64 1) (.int .i64 (i : Int)) = pure (.int .u64 (shl .u64 1 (i : Int))) := by
  show Op.shift .shl .u64 1 .i64 (i : Int) = _
  unfold Op.shift
  rw [if_neg (by omega)]
  rfl
attribute [local go_sem high] eqA25 shl_one
theorem parse_word (m : ByteArray) (hm : m.size ≤ 60) (k0 : Int) (t0 : ByteArray) (r0 w0 : Bool) (m0 : Int) (ok : Bool) (hx : ruleB m = (k0, t0, r0, w0, m0, ok)) (w : World) (hLd : Ld w) :
    Calls Tryd.prog 15 #[.string m] w fun e w' => e = .returned (.tuple #[.agg #[.int .u8 k0, .string t0, .bool r0, .bool w0, .int .u64 m0], .bool ok]) ∧ Below w.heap.size w w' := by
  refine rule_Parse.calls m k0 t0 r0 w0 m0 ok w hLd ?_
  unfold rule_Parse.f
  rw [if_pos (by omega), hx]
theorem size_pre (m s : ByteArray) (h : m.size ≤ 10) (hs : s.size ≤ 20) : (m ++ s).size ≤ 60 := by rw [app_size]; omega
theorem size_pre3 (m s t : ByteArray) (h : m.size ≤ 10) (hs : s.size ≤ 20) (ht : t.size ≤ 10) : ((m ++ s) ++ t).size ≤ 60 := by rw [app_size, app_size]; omega
theorem no_over (m s : ByteArray) (h : m.size ≤ 10) (hs : s.size ≤ 20) : ¬ (9223372036854775807 < m.size + s.size) := by omega
theorem no_over3 (m s t : ByteArray) (h : m.size ≤ 10) (hs : s.size ≤ 20) (ht : t.size ≤ 10) : ¬ (9223372036854775807 < (m.size + s.size) + t.size) := by omega
theorem infoStr : (Tryd.prog.info? 9).map (fun i => (i.zero, i.size, i.bytes)) = some (some (.string ⟨#[]⟩), 1, 16) := by kernel_rfl
theorem cats_len : ((tipstaffref07_Cats.f).getD []).length = 12 := by decide +kernel
theorem catsA_len : catsA.length = 13 := by unfold catsA; rw [List.length_append, cats_len]; rfl
set_option maxHeartbeats 16000000 in
set_option maxRecDepth 100000 in
theorem commands_any (n m : Int) (hn0 : 0 ≤ n) (hn1 : n ≤ 255) (hm0 : 0 ≤ m) (hm1 : m ≤ 255) (i : Nat) (hi : n % 56 = (i : Int)) (hi56 : i < 56) (j : Nat) (hj : m % 13 = (j : Int)) (hj13 : j < 13) (nm ct : ByteArray) (hct : ctI j = ct) (ar ca : Int)
    (hat : tipstaffref07_At.f (i : Int) = some (nm, ar, ca, true)) (hsn : nm.size ≤ 20) (hsc : ct.size ≤ 20) (P mk : Int) (hP : P = shl .u64 1 (i : Int)) (k6 : Int) (t6 : ByteArray) (r6 w6 : Bool) (m6 : Int) (y : Bool) (m8 : Int) (kc kn : Nat)
    (h1 : ruleB (⟨#[43]⟩ ++ nm) = (8, ⟨#[]⟩, false, false, P, true)) (h2 : ruleB (⟨#[45]⟩ ++ nm) = (9, ⟨#[]⟩, false, false, P, true)) (h3 : ruleB (⟨#[43, 64]⟩ ++ ct) = (8, ⟨#[]⟩, false, false, mk, true)) (h4 : ruleB (⟨#[45, 64]⟩ ++ ct) = (9, ⟨#[]⟩, false, false, mk, true))
    (h5 : ruleB ((⟨#[43]⟩ ++ nm) ++ ⟨#[120]⟩) = (0, ⟨#[]⟩, false, false, 0, false)) (h6 : ruleB (⟨#[43, 64]⟩ ++ nm) = (k6, t6, r6, w6, m6, y)) (h7 : ruleB ⟨#[97, 108, 108, 99, 111, 109, 109, 97, 110, 100, 115]⟩ = (8, ⟨#[]⟩, false, false, 72057594037927935, true))
    (hc : tipstaffref07_Cat.f kc ct = some (mk, true)) (hc2 : tipstaffref07_Cat.f kn nm = some (m8, y)) (w : World) (hLd : Ld w) :
    Calls Tryd.prog 4 #[.int .u8 n, .int .u8 m] w fun e w' => e = .returned (.bool true) ∧ Below w.heap.size w w' := by
  have HL := Aside0.mk hLd
  have HAT := Aside0.mk hat
  have HH := Aside0.mk (And.intro h1 (And.intro h2 (And.intro h3 (And.intro h4 (And.intro h5 (And.intro h6 h7))))))
  have HC := Aside0.mk hc
  have HC2 := Aside0.mk hc2
  have HS := Aside0.mk (And.intro hsn hsc)
  have HJ := Aside0.mk hj13
  have HCT := Aside0.mk hct
  have HPP := Aside0.mk hP
  have ht : Int.tmod n 56 = (i : Int) := by rw [Int.tmod_eq_emod_of_nonneg hn0]; exact hi
  have ht2 : Int.tmod m 13 = (j : Int) := by rw [Int.tmod_eq_emod_of_nonneg hm0]; exact hj
  obtain ⟨cats, hcats⟩ : ∃ l, tipstaffref07_Cats.f = some l := ⟨_, rfl⟩
  have hclen : cats.length = 12 := by have := cats_len; rw [hcats] at this; exact this
  have hcA : catsA = cats ++ [⟨#[97, 108, 108]⟩] := by unfold catsA; rw [hcats]; rfl
  have HCS := Aside0.mk hcats
  have HCL := Aside0.mk hclen
  have HCA := Aside0.mk hcA
  clear hLd hat h1 h2 h3 h4 h5 h6 h7 hc hc2 hsn hsc hj13 hct hP hcats hclen hcA hi hj
  go_enter Tryd.func4, Tryd.ntmps4
  go_wp2_with fail
  refine (tipstafflaw17_shown.calls true w HL.out shown17c).mono ?_
  rintro e w1 ⟨rfl, hb⟩
  have HB1 := Aside0.mk hb
  clear hb
  go_wp2_with fail
  refine (tipstaffref07_At.calls (i : Int) nm ar ca true _ HAT.out).mono ?_
  rintro e w2 ⟨rfl, hb⟩
  have HB2 := Aside0.mk (below_then HB1.out HB1.out.size hb)
  clear hb
  obtain ⟨w3, hw3, HB3, HC3⟩ := named_al w2 #[.string ⟨#[]⟩, .int .i64 0, .int .u16 0] 31
  obtain ⟨q, hq⟩ : ∃ q, w2.heap.size = q := ⟨_, rfl⟩
  have HQ := Aside0.mk (show w.heap.size ≤ q by rw [← hq]; exact HB2.out.size)
  have HB := Aside0.mk (below_then HB2.out HB2.out.size HB3.out)
  rw [hq] at HC3
  have z0 := (pw_cells HC3.out 0).1
  have z1 := (pw_cells HC3.out 1).1
  have z2 := (pw_cells HC3.out 2).1
  have f0 := (pw_cells HC3.out 0).2
  have f1 := (pw_cells HC3.out 1).2
  have f2 := (pw_cells HC3.out 2).2
  have hu31 := Tryd.underlying31
  go_wp2_with fail
  have HRq := Aside0.mk (blk_put (blk_put (blk_put HC3.out 0 (.string nm) rfl) 1 (.int .i64 ar) rfl) 2 (.int .u16 ca) rfl)
  have HB4 := Aside0.mk (below_set (below_set (below_set HB.out HQ.out (j := 0) (v := .string nm)) HQ.out (j := 1) (v := .int .i64 ar)) HQ.out (j := 2) (v := .int .u16 ca))
  clear z0 z1 z2 f0 f1 f2 HB hw3 hu31
  refine (tipstaffref07_Cats.calls cats _ HCS.out).mono ?_
  rintro e w5 ⟨v5, rfl, hR, hb⟩
  have HR5 := Aside0.mk (Kd.R_lower hR HB4.out.size)
  have HB5 := Aside0.mk (below_then HB4.out HB4.out.size hb)
  have n_ := Aside0.mk ((hb.block q (pw_lt HRq.out)).trans HRq.out)
  have HQ6 := Aside0.mk (show ∀ k, v5.ownBlock = some k → k ≠ q from fun k hk e => by have := Kd.R_base hR k hk; have := pw_lt HRq.out; omega)
  clear HRq hR hb
  have HRq := n_
  clear n_
  go_wp2_with (at_builtin; go_loud (refine Kd.R_append Kd.string (w0 := w) w.heap.size rfl (.tmp 37) (.tmp 38) 34 9 (.string ⟨#[]⟩) 16 rfl Tryd.underlying34 infoStr rfl (by decide) (by omega) _ _ ⟨#[97, 108, 108]⟩ [.string ⟨#[97, 108, 108]⟩] (fun _ => True) (fun _ => False) rfl rfl rfl (fun _ hk => hk.elim) (fun _ _ => trivial) HR5.out HB5.out HB5.out.size (by have := HCL.out; omega) ?_); intro v6 u6 ho hb hgr hat; rw [← HCA.out] at ho; obtain ⟨A6, c6, e6⟩ := Kd.R_slice ho; subst e6; have n1_ := Aside0.mk ((hgr.block q (pw_lt HRq.out) (fun he => HQ6.out q he.symm rfl)).trans HRq.out); obtain ⟨ad, e0, hcell⟩ := (Kd.reads_of_C (d := ByteArray.empty) (Kd.R_reads' ho).2.2).2.2 (by rw [catsA_len]; omega); subst e0; have hcj := hcell j (by rw [catsA_len]; exact HJ.out); have hcj2 : catsA.getD j ByteArray.empty = ct := HCT.out; rw [hcj2] at hcj; have hjl : (j : Int) < (catsA.length : Int) := (by rw [catsA_len]; have := HJ.out; omega); have HB6 := Aside0.mk hb; clear HRq; have HRq := n1_; clear n1_ ho hb hgr hat hcell hcj2)
  refine (tipstaffref07_Cat.calls kc ct mk true _ HC.out).mono ?_
  rintro e u7 ⟨rfl, hb⟩
  have HBc := Aside0.mk (below_then HB6.out HB6.out.size hb)
  have n_ := Aside0.mk ((hb.block q (pw_lt HRq.out)).trans HRq.out)
  clear HRq hb hcj hjl
  have HRq := n_
  clear n_
  have cq := (pw_cells HRq.out 0).1
  have hsz0 : ¬ (9223372036854775807 < (⟨#[43]⟩ : ByteArray).size + nm.size) := no_over _ _ (by decide) HS.out.1
  go_wp2_with fail
  have hcall0 := parse_word (⟨#[43]⟩ ++ nm) (size_pre _ _ (by decide) HS.out.1) 8 ⟨#[]⟩ false false P true (HH.out.1) _ (HL.out.below HBc.out)
  refine hcall0.mono ?_
  clear hcall0
  rintro e x0 ⟨rfl, hb⟩
  have HBu0 := Aside0.mk (below_then HBc.out HBc.out.size hb)
  have n_ := Aside0.mk ((hb.block q (pw_lt HRq.out)).trans HRq.out)
  clear HRq
  have HRq := n_
  clear n_
  clear hb cq hsz0
  obtain ⟨y0, hy0, HBx0, HCp0⟩ := named_al x0 #[.int .u8 0, .string ⟨#[]⟩, .bool false, .bool false, .int .u64 0] 25
  have HBa0 := Aside0.mk (below_then HBu0.out HBu0.out.size HBx0.out)
  obtain ⟨p0, hp0⟩ : ∃ p, x0.heap.size = p := ⟨_, rfl⟩
  have HPw0 := Aside0.mk (show w.heap.size ≤ p0 by rw [← hp0]; exact HBu0.out.size)
  have HPPq_0 := Aside0.mk (show q < p0 by rw [← hp0]; exact pw_lt HRq.out)
  have n_ := Aside0.mk ((HBx0.out.block q (pw_lt HRq.out)).trans HRq.out)
  clear HRq
  have HRq := n_
  clear n_
  rw [hp0] at HCp0
  obtain ⟨a0_0, a0_1, a0_2, a0_3, a0_4, g0_0, g0_1, g0_2, g0_3, g0_4⟩ := cells5 HCp0.out
  have e0a : ¬ (q = p0) := by have := HPPq_0.out; omega
  have e0b : ¬ (p0 = q) := by have := HPPq_0.out; omega
  have cq := (pw_cells HRq.out 0).1
  have hsz0 : ¬ (9223372036854775807 < (⟨#[45]⟩ : ByteArray).size + nm.size) := no_over _ _ (by decide) HS.out.1
  go_wp2_with fail
  have HBs0 := Aside0.mk (below5 HBa0.out HPw0.out (.int .u8 8) (.string ⟨#[]⟩) (.bool false) (.bool false) (.int .u64 P))
  have HRp0 := Aside0.mk (set5r HCp0.out (.int .u8 8) (.string ⟨#[]⟩) (.bool false) (.bool false) (.int .u64 P))
  have n_ := Aside0.mk ((off5r _ p0 (.int .u8 8) (.string ⟨#[]⟩) (.bool false) (.bool false) (.int .u64 P) q (by have := HPPq_0.out; omega)).trans HRq.out)
  clear HRq
  have HRq := n_
  clear n_
  clear e0a e0b a0_0 a0_1 a0_2 a0_3 a0_4 g0_0 g0_1 g0_2 g0_3 g0_4
  have hcall1 := parse_word (⟨#[45]⟩ ++ nm) (size_pre _ _ (by decide) HS.out.1) 9 ⟨#[]⟩ false false P true (HH.out.2.1) _ (HL.out.below HBs0.out)
  refine hcall1.mono ?_
  clear hcall1
  rintro e x1 ⟨rfl, hb⟩
  have HBu1 := Aside0.mk (below_then HBs0.out HBs0.out.size hb)
  have n_ := Aside0.mk ((hb.block q (pw_lt HRq.out)).trans HRq.out)
  clear HRq
  have HRq := n_
  clear n_
  have n_ := Aside0.mk ((hb.block p0 (pw_lt HRp0.out)).trans HRp0.out)
  clear HRp0
  have HRp0 := n_
  clear n_
  clear hb cq hsz0
  obtain ⟨y1, hy1, HBx1, HCp1⟩ := named_al x1 #[.int .u8 0, .string ⟨#[]⟩, .bool false, .bool false, .int .u64 0] 25
  have HBa1 := Aside0.mk (below_then HBu1.out HBu1.out.size HBx1.out)
  obtain ⟨p1, hp1⟩ : ∃ p, x1.heap.size = p := ⟨_, rfl⟩
  have HPw1 := Aside0.mk (show w.heap.size ≤ p1 by rw [← hp1]; exact HBu1.out.size)
  have HPPq_1 := Aside0.mk (show q < p1 by rw [← hp1]; exact pw_lt HRq.out)
  have n_ := Aside0.mk ((HBx1.out.block q (pw_lt HRq.out)).trans HRq.out)
  clear HRq
  have HRq := n_
  clear n_
  have HPPp0_1 := Aside0.mk (show p0 < p1 by rw [← hp1]; exact pw_lt HRp0.out)
  have n_ := Aside0.mk ((HBx1.out.block p0 (pw_lt HRp0.out)).trans HRp0.out)
  clear HRp0
  have HRp0 := n_
  clear n_
  rw [hp1] at HCp1
  obtain ⟨a1_0, a1_1, a1_2, a1_3, a1_4, g1_0, g1_1, g1_2, g1_3, g1_4⟩ := cells5 HCp1.out
  have e1a : ¬ (q = p1) := by have := HPPq_1.out; omega
  have e1b : ¬ (p1 = q) := by have := HPPq_1.out; omega
  have hsz0 : ¬ (9223372036854775807 < (⟨#[43, 64]⟩ : ByteArray).size + ct.size) := no_over _ _ (by decide) HS.out.2
  go_wp2_with fail
  have HBs1 := Aside0.mk (below5 HBa1.out HPw1.out (.int .u8 9) (.string ⟨#[]⟩) (.bool false) (.bool false) (.int .u64 P))
  have HRp1 := Aside0.mk (set5r HCp1.out (.int .u8 9) (.string ⟨#[]⟩) (.bool false) (.bool false) (.int .u64 P))
  have n_ := Aside0.mk ((off5r _ p1 (.int .u8 9) (.string ⟨#[]⟩) (.bool false) (.bool false) (.int .u64 P) q (by have := HPPq_1.out; omega)).trans HRq.out)
  clear HRq
  have HRq := n_
  clear n_
  have n_ := Aside0.mk ((off5r _ p1 (.int .u8 9) (.string ⟨#[]⟩) (.bool false) (.bool false) (.int .u64 P) p0 (by have := HPPp0_1.out; omega)).trans HRp0.out)
  clear HRp0
  have HRp0 := n_
  clear n_
  clear e1a e1b a1_0 a1_1 a1_2 a1_3 a1_4 g1_0 g1_1 g1_2 g1_3 g1_4
  have hcall2 := parse_word (⟨#[43, 64]⟩ ++ ct) (size_pre _ _ (by decide) HS.out.2) 8 ⟨#[]⟩ false false mk true (HH.out.2.2.1) _ (HL.out.below HBs1.out)
  refine hcall2.mono ?_
  clear hcall2
  rintro e x2 ⟨rfl, hb⟩
  have HBu2 := Aside0.mk (below_then HBs1.out HBs1.out.size hb)
  have n_ := Aside0.mk ((hb.block q (pw_lt HRq.out)).trans HRq.out)
  clear HRq
  have HRq := n_
  clear n_
  have n_ := Aside0.mk ((hb.block p0 (pw_lt HRp0.out)).trans HRp0.out)
  clear HRp0
  have HRp0 := n_
  clear n_
  have n_ := Aside0.mk ((hb.block p1 (pw_lt HRp1.out)).trans HRp1.out)
  clear HRp1
  have HRp1 := n_
  clear n_
  clear hb hsz0
  obtain ⟨y2, hy2, HBx2, HCp2⟩ := named_al x2 #[.int .u8 0, .string ⟨#[]⟩, .bool false, .bool false, .int .u64 0] 25
  have HBa2 := Aside0.mk (below_then HBu2.out HBu2.out.size HBx2.out)
  obtain ⟨p2, hp2⟩ : ∃ p, x2.heap.size = p := ⟨_, rfl⟩
  have HPw2 := Aside0.mk (show w.heap.size ≤ p2 by rw [← hp2]; exact HBu2.out.size)
  have HPPq_2 := Aside0.mk (show q < p2 by rw [← hp2]; exact pw_lt HRq.out)
  have n_ := Aside0.mk ((HBx2.out.block q (pw_lt HRq.out)).trans HRq.out)
  clear HRq
  have HRq := n_
  clear n_
  have HPPp0_2 := Aside0.mk (show p0 < p2 by rw [← hp2]; exact pw_lt HRp0.out)
  have n_ := Aside0.mk ((HBx2.out.block p0 (pw_lt HRp0.out)).trans HRp0.out)
  clear HRp0
  have HRp0 := n_
  clear n_
  have HPPp1_2 := Aside0.mk (show p1 < p2 by rw [← hp2]; exact pw_lt HRp1.out)
  have n_ := Aside0.mk ((HBx2.out.block p1 (pw_lt HRp1.out)).trans HRp1.out)
  clear HRp1
  have HRp1 := n_
  clear n_
  rw [hp2] at HCp2
  obtain ⟨a2_0, a2_1, a2_2, a2_3, a2_4, g2_0, g2_1, g2_2, g2_3, g2_4⟩ := cells5 HCp2.out
  have e2a : ¬ (q = p2) := by have := HPPq_2.out; omega
  have e2b : ¬ (p2 = q) := by have := HPPq_2.out; omega
  have hsz0 : ¬ (9223372036854775807 < (⟨#[45, 64]⟩ : ByteArray).size + ct.size) := no_over _ _ (by decide) HS.out.2
  go_wp2_with fail
  have HBs2 := Aside0.mk (below5 HBa2.out HPw2.out (.int .u8 8) (.string ⟨#[]⟩) (.bool false) (.bool false) (.int .u64 mk))
  have HRp2 := Aside0.mk (set5r HCp2.out (.int .u8 8) (.string ⟨#[]⟩) (.bool false) (.bool false) (.int .u64 mk))
  have n_ := Aside0.mk ((off5r _ p2 (.int .u8 8) (.string ⟨#[]⟩) (.bool false) (.bool false) (.int .u64 mk) q (by have := HPPq_2.out; omega)).trans HRq.out)
  clear HRq
  have HRq := n_
  clear n_
  have n_ := Aside0.mk ((off5r _ p2 (.int .u8 8) (.string ⟨#[]⟩) (.bool false) (.bool false) (.int .u64 mk) p0 (by have := HPPp0_2.out; omega)).trans HRp0.out)
  clear HRp0
  have HRp0 := n_
  clear n_
  have n_ := Aside0.mk ((off5r _ p2 (.int .u8 8) (.string ⟨#[]⟩) (.bool false) (.bool false) (.int .u64 mk) p1 (by have := HPPp1_2.out; omega)).trans HRp1.out)
  clear HRp1
  have HRp1 := n_
  clear n_
  clear e2a e2b a2_0 a2_1 a2_2 a2_3 a2_4 g2_0 g2_1 g2_2 g2_3 g2_4
  have hcall3 := parse_word (⟨#[45, 64]⟩ ++ ct) (size_pre _ _ (by decide) HS.out.2) 9 ⟨#[]⟩ false false mk true (HH.out.2.2.2.1) _ (HL.out.below HBs2.out)
  refine hcall3.mono ?_
  clear hcall3
  rintro e x3 ⟨rfl, hb⟩
  have HBu3 := Aside0.mk (below_then HBs2.out HBs2.out.size hb)
  have n_ := Aside0.mk ((hb.block q (pw_lt HRq.out)).trans HRq.out)
  clear HRq
  have HRq := n_
  clear n_
  have n_ := Aside0.mk ((hb.block p0 (pw_lt HRp0.out)).trans HRp0.out)
  clear HRp0
  have HRp0 := n_
  clear n_
  have n_ := Aside0.mk ((hb.block p1 (pw_lt HRp1.out)).trans HRp1.out)
  clear HRp1
  have HRp1 := n_
  clear n_
  have n_ := Aside0.mk ((hb.block p2 (pw_lt HRp2.out)).trans HRp2.out)
  clear HRp2
  have HRp2 := n_
  clear n_
  clear hb hsz0
  obtain ⟨y3, hy3, HBx3, HCp3⟩ := named_al x3 #[.int .u8 0, .string ⟨#[]⟩, .bool false, .bool false, .int .u64 0] 25
  have HBa3 := Aside0.mk (below_then HBu3.out HBu3.out.size HBx3.out)
  obtain ⟨p3, hp3⟩ : ∃ p, x3.heap.size = p := ⟨_, rfl⟩
  have HPw3 := Aside0.mk (show w.heap.size ≤ p3 by rw [← hp3]; exact HBu3.out.size)
  have HPPq_3 := Aside0.mk (show q < p3 by rw [← hp3]; exact pw_lt HRq.out)
  have n_ := Aside0.mk ((HBx3.out.block q (pw_lt HRq.out)).trans HRq.out)
  clear HRq
  have HRq := n_
  clear n_
  have HPPp0_3 := Aside0.mk (show p0 < p3 by rw [← hp3]; exact pw_lt HRp0.out)
  have n_ := Aside0.mk ((HBx3.out.block p0 (pw_lt HRp0.out)).trans HRp0.out)
  clear HRp0
  have HRp0 := n_
  clear n_
  have HPPp1_3 := Aside0.mk (show p1 < p3 by rw [← hp3]; exact pw_lt HRp1.out)
  have n_ := Aside0.mk ((HBx3.out.block p1 (pw_lt HRp1.out)).trans HRp1.out)
  clear HRp1
  have HRp1 := n_
  clear n_
  have HPPp2_3 := Aside0.mk (show p2 < p3 by rw [← hp3]; exact pw_lt HRp2.out)
  have n_ := Aside0.mk ((HBx3.out.block p2 (pw_lt HRp2.out)).trans HRp2.out)
  clear HRp2
  have HRp2 := n_
  clear n_
  rw [hp3] at HCp3
  obtain ⟨a3_0, a3_1, a3_2, a3_3, a3_4, g3_0, g3_1, g3_2, g3_3, g3_4⟩ := cells5 HCp3.out
  have e3a : ¬ (q = p3) := by have := HPPq_3.out; omega
  have e3b : ¬ (p3 = q) := by have := HPPq_3.out; omega
  have cq := (pw_cells HRq.out 0).1
  have hsz0 : ¬ (9223372036854775807 < (⟨#[43]⟩ : ByteArray).size + nm.size) := no_over _ _ (by decide) HS.out.1
  have hsz1 : ¬ (9223372036854775807 < ((⟨#[43]⟩ : ByteArray).size + nm.size) + (⟨#[120]⟩ : ByteArray).size) := no_over3 _ _ _ (by decide) HS.out.1 (by decide)
  go_wp2_with fail
  have HBs3 := Aside0.mk (below5 HBa3.out HPw3.out (.int .u8 9) (.string ⟨#[]⟩) (.bool false) (.bool false) (.int .u64 mk))
  have HRp3 := Aside0.mk (set5r HCp3.out (.int .u8 9) (.string ⟨#[]⟩) (.bool false) (.bool false) (.int .u64 mk))
  have n_ := Aside0.mk ((off5r _ p3 (.int .u8 9) (.string ⟨#[]⟩) (.bool false) (.bool false) (.int .u64 mk) q (by have := HPPq_3.out; omega)).trans HRq.out)
  clear HRq
  have HRq := n_
  clear n_
  have n_ := Aside0.mk ((off5r _ p3 (.int .u8 9) (.string ⟨#[]⟩) (.bool false) (.bool false) (.int .u64 mk) p0 (by have := HPPp0_3.out; omega)).trans HRp0.out)
  clear HRp0
  have HRp0 := n_
  clear n_
  have n_ := Aside0.mk ((off5r _ p3 (.int .u8 9) (.string ⟨#[]⟩) (.bool false) (.bool false) (.int .u64 mk) p1 (by have := HPPp1_3.out; omega)).trans HRp1.out)
  clear HRp1
  have HRp1 := n_
  clear n_
  have n_ := Aside0.mk ((off5r _ p3 (.int .u8 9) (.string ⟨#[]⟩) (.bool false) (.bool false) (.int .u64 mk) p2 (by have := HPPp2_3.out; omega)).trans HRp2.out)
  clear HRp2
  have HRp2 := n_
  clear n_
  clear e3a e3b a3_0 a3_1 a3_2 a3_3 a3_4 g3_0 g3_1 g3_2 g3_3 g3_4
  have hcall4 := parse_word ((⟨#[43]⟩ ++ nm) ++ ⟨#[120]⟩) (size_pre3 _ _ _ (by decide) HS.out.1 (by decide)) 0 ⟨#[]⟩ false false 0 false (HH.out.2.2.2.2.1) _ (HL.out.below HBs3.out)
  refine hcall4.mono ?_
  clear hcall4
  rintro e x4 ⟨rfl, hb⟩
  have HBu4 := Aside0.mk (below_then HBs3.out HBs3.out.size hb)
  have n_ := Aside0.mk ((hb.block q (pw_lt HRq.out)).trans HRq.out)
  clear HRq
  have HRq := n_
  clear n_
  have n_ := Aside0.mk ((hb.block p0 (pw_lt HRp0.out)).trans HRp0.out)
  clear HRp0
  have HRp0 := n_
  clear n_
  have n_ := Aside0.mk ((hb.block p1 (pw_lt HRp1.out)).trans HRp1.out)
  clear HRp1
  have HRp1 := n_
  clear n_
  have n_ := Aside0.mk ((hb.block p2 (pw_lt HRp2.out)).trans HRp2.out)
  clear HRp2
  have HRp2 := n_
  clear n_
  have n_ := Aside0.mk ((hb.block p3 (pw_lt HRp3.out)).trans HRp3.out)
  clear HRp3
  have HRp3 := n_
  clear n_
  clear hb cq hsz0 hsz1
  obtain ⟨y4, hy4, HBx4, HCp4⟩ := named_al x4 #[.int .u8 0, .string ⟨#[]⟩, .bool false, .bool false, .int .u64 0] 25
  have HBa4 := Aside0.mk (below_then HBu4.out HBu4.out.size HBx4.out)
  obtain ⟨p4, hp4⟩ : ∃ p, x4.heap.size = p := ⟨_, rfl⟩
  have HPw4 := Aside0.mk (show w.heap.size ≤ p4 by rw [← hp4]; exact HBu4.out.size)
  have HPPq_4 := Aside0.mk (show q < p4 by rw [← hp4]; exact pw_lt HRq.out)
  have n_ := Aside0.mk ((HBx4.out.block q (pw_lt HRq.out)).trans HRq.out)
  clear HRq
  have HRq := n_
  clear n_
  have HPPp0_4 := Aside0.mk (show p0 < p4 by rw [← hp4]; exact pw_lt HRp0.out)
  have n_ := Aside0.mk ((HBx4.out.block p0 (pw_lt HRp0.out)).trans HRp0.out)
  clear HRp0
  have HRp0 := n_
  clear n_
  have HPPp1_4 := Aside0.mk (show p1 < p4 by rw [← hp4]; exact pw_lt HRp1.out)
  have n_ := Aside0.mk ((HBx4.out.block p1 (pw_lt HRp1.out)).trans HRp1.out)
  clear HRp1
  have HRp1 := n_
  clear n_
  have HPPp2_4 := Aside0.mk (show p2 < p4 by rw [← hp4]; exact pw_lt HRp2.out)
  have n_ := Aside0.mk ((HBx4.out.block p2 (pw_lt HRp2.out)).trans HRp2.out)
  clear HRp2
  have HRp2 := n_
  clear n_
  have HPPp3_4 := Aside0.mk (show p3 < p4 by rw [← hp4]; exact pw_lt HRp3.out)
  have n_ := Aside0.mk ((HBx4.out.block p3 (pw_lt HRp3.out)).trans HRp3.out)
  clear HRp3
  have HRp3 := n_
  clear n_
  rw [hp4] at HCp4
  obtain ⟨a4_0, a4_1, a4_2, a4_3, a4_4, g4_0, g4_1, g4_2, g4_3, g4_4⟩ := cells5 HCp4.out
  have e4a : ¬ (q = p4) := by have := HPPq_4.out; omega
  have e4b : ¬ (p4 = q) := by have := HPPq_4.out; omega
  have cq := (pw_cells HRq.out 0).1
  have hsz0 : ¬ (9223372036854775807 < (⟨#[43, 64]⟩ : ByteArray).size + nm.size) := no_over _ _ (by decide) HS.out.1
  go_wp2_with fail
  have HBs4 := Aside0.mk (below5 HBa4.out HPw4.out (.int .u8 0) (.string ⟨#[]⟩) (.bool false) (.bool false) (.int .u64 0))
  have HRp4 := Aside0.mk (set5r HCp4.out (.int .u8 0) (.string ⟨#[]⟩) (.bool false) (.bool false) (.int .u64 0))
  have n_ := Aside0.mk ((off5r _ p4 (.int .u8 0) (.string ⟨#[]⟩) (.bool false) (.bool false) (.int .u64 0) q (by have := HPPq_4.out; omega)).trans HRq.out)
  clear HRq
  have HRq := n_
  clear n_
  have n_ := Aside0.mk ((off5r _ p4 (.int .u8 0) (.string ⟨#[]⟩) (.bool false) (.bool false) (.int .u64 0) p0 (by have := HPPp0_4.out; omega)).trans HRp0.out)
  clear HRp0
  have HRp0 := n_
  clear n_
  have n_ := Aside0.mk ((off5r _ p4 (.int .u8 0) (.string ⟨#[]⟩) (.bool false) (.bool false) (.int .u64 0) p1 (by have := HPPp1_4.out; omega)).trans HRp1.out)
  clear HRp1
  have HRp1 := n_
  clear n_
  have n_ := Aside0.mk ((off5r _ p4 (.int .u8 0) (.string ⟨#[]⟩) (.bool false) (.bool false) (.int .u64 0) p2 (by have := HPPp2_4.out; omega)).trans HRp2.out)
  clear HRp2
  have HRp2 := n_
  clear n_
  have n_ := Aside0.mk ((off5r _ p4 (.int .u8 0) (.string ⟨#[]⟩) (.bool false) (.bool false) (.int .u64 0) p3 (by have := HPPp3_4.out; omega)).trans HRp3.out)
  clear HRp3
  have HRp3 := n_
  clear n_
  clear e4a e4b a4_0 a4_1 a4_2 a4_3 a4_4 g4_0 g4_1 g4_2 g4_3 g4_4
  have hcall5 := parse_word (⟨#[43, 64]⟩ ++ nm) (size_pre _ _ (by decide) HS.out.1) k6 t6 r6 w6 m6 y (HH.out.2.2.2.2.2.1) _ (HL.out.below HBs4.out)
  refine hcall5.mono ?_
  clear hcall5
  rintro e x5 ⟨rfl, hb⟩
  have HBu5 := Aside0.mk (below_then HBs4.out HBs4.out.size hb)
  have n_ := Aside0.mk ((hb.block q (pw_lt HRq.out)).trans HRq.out)
  clear HRq
  have HRq := n_
  clear n_
  have n_ := Aside0.mk ((hb.block p0 (pw_lt HRp0.out)).trans HRp0.out)
  clear HRp0
  have HRp0 := n_
  clear n_
  have n_ := Aside0.mk ((hb.block p1 (pw_lt HRp1.out)).trans HRp1.out)
  clear HRp1
  have HRp1 := n_
  clear n_
  have n_ := Aside0.mk ((hb.block p2 (pw_lt HRp2.out)).trans HRp2.out)
  clear HRp2
  have HRp2 := n_
  clear n_
  have n_ := Aside0.mk ((hb.block p3 (pw_lt HRp3.out)).trans HRp3.out)
  clear HRp3
  have HRp3 := n_
  clear n_
  have n_ := Aside0.mk ((hb.block p4 (pw_lt HRp4.out)).trans HRp4.out)
  clear HRp4
  have HRp4 := n_
  clear n_
  clear hb cq hsz0
  obtain ⟨y5, hy5, HBx5, HCp5⟩ := named_al x5 #[.int .u8 0, .string ⟨#[]⟩, .bool false, .bool false, .int .u64 0] 25
  have HBa5 := Aside0.mk (below_then HBu5.out HBu5.out.size HBx5.out)
  obtain ⟨p5, hp5⟩ : ∃ p, x5.heap.size = p := ⟨_, rfl⟩
  have HPw5 := Aside0.mk (show w.heap.size ≤ p5 by rw [← hp5]; exact HBu5.out.size)
  have HPPq_5 := Aside0.mk (show q < p5 by rw [← hp5]; exact pw_lt HRq.out)
  have n_ := Aside0.mk ((HBx5.out.block q (pw_lt HRq.out)).trans HRq.out)
  clear HRq
  have HRq := n_
  clear n_
  have HPPp0_5 := Aside0.mk (show p0 < p5 by rw [← hp5]; exact pw_lt HRp0.out)
  have n_ := Aside0.mk ((HBx5.out.block p0 (pw_lt HRp0.out)).trans HRp0.out)
  clear HRp0
  have HRp0 := n_
  clear n_
  have HPPp1_5 := Aside0.mk (show p1 < p5 by rw [← hp5]; exact pw_lt HRp1.out)
  have n_ := Aside0.mk ((HBx5.out.block p1 (pw_lt HRp1.out)).trans HRp1.out)
  clear HRp1
  have HRp1 := n_
  clear n_
  have HPPp2_5 := Aside0.mk (show p2 < p5 by rw [← hp5]; exact pw_lt HRp2.out)
  have n_ := Aside0.mk ((HBx5.out.block p2 (pw_lt HRp2.out)).trans HRp2.out)
  clear HRp2
  have HRp2 := n_
  clear n_
  have HPPp3_5 := Aside0.mk (show p3 < p5 by rw [← hp5]; exact pw_lt HRp3.out)
  have n_ := Aside0.mk ((HBx5.out.block p3 (pw_lt HRp3.out)).trans HRp3.out)
  clear HRp3
  have HRp3 := n_
  clear n_
  have HPPp4_5 := Aside0.mk (show p4 < p5 by rw [← hp5]; exact pw_lt HRp4.out)
  have n_ := Aside0.mk ((HBx5.out.block p4 (pw_lt HRp4.out)).trans HRp4.out)
  clear HRp4
  have HRp4 := n_
  clear n_
  rw [hp5] at HCp5
  obtain ⟨a5_0, a5_1, a5_2, a5_3, a5_4, g5_0, g5_1, g5_2, g5_3, g5_4⟩ := cells5 HCp5.out
  have e5a : ¬ (q = p5) := by have := HPPq_5.out; omega
  have e5b : ¬ (p5 = q) := by have := HPPq_5.out; omega
  go_wp2_with fail
  have HBs5 := Aside0.mk (below5 HBa5.out HPw5.out (.int .u8 k6) (.string t6) (.bool r6) (.bool w6) (.int .u64 m6))
  have HRp5 := Aside0.mk (set5r HCp5.out (.int .u8 k6) (.string t6) (.bool r6) (.bool w6) (.int .u64 m6))
  have n_ := Aside0.mk ((off5r _ p5 (.int .u8 k6) (.string t6) (.bool r6) (.bool w6) (.int .u64 m6) q (by have := HPPq_5.out; omega)).trans HRq.out)
  clear HRq
  have HRq := n_
  clear n_
  have n_ := Aside0.mk ((off5r _ p5 (.int .u8 k6) (.string t6) (.bool r6) (.bool w6) (.int .u64 m6) p0 (by have := HPPp0_5.out; omega)).trans HRp0.out)
  clear HRp0
  have HRp0 := n_
  clear n_
  have n_ := Aside0.mk ((off5r _ p5 (.int .u8 k6) (.string t6) (.bool r6) (.bool w6) (.int .u64 m6) p1 (by have := HPPp1_5.out; omega)).trans HRp1.out)
  clear HRp1
  have HRp1 := n_
  clear n_
  have n_ := Aside0.mk ((off5r _ p5 (.int .u8 k6) (.string t6) (.bool r6) (.bool w6) (.int .u64 m6) p2 (by have := HPPp2_5.out; omega)).trans HRp2.out)
  clear HRp2
  have HRp2 := n_
  clear n_
  have n_ := Aside0.mk ((off5r _ p5 (.int .u8 k6) (.string t6) (.bool r6) (.bool w6) (.int .u64 m6) p3 (by have := HPPp3_5.out; omega)).trans HRp3.out)
  clear HRp3
  have HRp3 := n_
  clear n_
  have n_ := Aside0.mk ((off5r _ p5 (.int .u8 k6) (.string t6) (.bool r6) (.bool w6) (.int .u64 m6) p4 (by have := HPPp4_5.out; omega)).trans HRp4.out)
  clear HRp4
  have HRp4 := n_
  clear n_
  clear e5a e5b a5_0 a5_1 a5_2 a5_3 a5_4 g5_0 g5_1 g5_2 g5_3 g5_4
  have hcall6 := parse_word ⟨#[97, 108, 108, 99, 111, 109, 109, 97, 110, 100, 115]⟩ (by decide) 8 ⟨#[]⟩ false false 72057594037927935 true (HH.out.2.2.2.2.2.2) _ (HL.out.below HBs5.out)
  refine hcall6.mono ?_
  clear hcall6
  rintro e x6 ⟨rfl, hb⟩
  have HBu6 := Aside0.mk (below_then HBs5.out HBs5.out.size hb)
  have n_ := Aside0.mk ((hb.block q (pw_lt HRq.out)).trans HRq.out)
  clear HRq
  have HRq := n_
  clear n_
  have n_ := Aside0.mk ((hb.block p0 (pw_lt HRp0.out)).trans HRp0.out)
  clear HRp0
  have HRp0 := n_
  clear n_
  have n_ := Aside0.mk ((hb.block p1 (pw_lt HRp1.out)).trans HRp1.out)
  clear HRp1
  have HRp1 := n_
  clear n_
  have n_ := Aside0.mk ((hb.block p2 (pw_lt HRp2.out)).trans HRp2.out)
  clear HRp2
  have HRp2 := n_
  clear n_
  have n_ := Aside0.mk ((hb.block p3 (pw_lt HRp3.out)).trans HRp3.out)
  clear HRp3
  have HRp3 := n_
  clear n_
  have n_ := Aside0.mk ((hb.block p4 (pw_lt HRp4.out)).trans HRp4.out)
  clear HRp4
  have HRp4 := n_
  clear n_
  have n_ := Aside0.mk ((hb.block p5 (pw_lt HRp5.out)).trans HRp5.out)
  clear HRp5
  have HRp5 := n_
  clear n_
  clear hb
  obtain ⟨y6, hy6, HBx6, HCp6⟩ := named_al x6 #[.int .u8 0, .string ⟨#[]⟩, .bool false, .bool false, .int .u64 0] 25
  have HBa6 := Aside0.mk (below_then HBu6.out HBu6.out.size HBx6.out)
  obtain ⟨p6, hp6⟩ : ∃ p, x6.heap.size = p := ⟨_, rfl⟩
  have HPw6 := Aside0.mk (show w.heap.size ≤ p6 by rw [← hp6]; exact HBu6.out.size)
  have HPPq_6 := Aside0.mk (show q < p6 by rw [← hp6]; exact pw_lt HRq.out)
  have n_ := Aside0.mk ((HBx6.out.block q (pw_lt HRq.out)).trans HRq.out)
  clear HRq
  have HRq := n_
  clear n_
  have HPPp0_6 := Aside0.mk (show p0 < p6 by rw [← hp6]; exact pw_lt HRp0.out)
  have n_ := Aside0.mk ((HBx6.out.block p0 (pw_lt HRp0.out)).trans HRp0.out)
  clear HRp0
  have HRp0 := n_
  clear n_
  have HPPp1_6 := Aside0.mk (show p1 < p6 by rw [← hp6]; exact pw_lt HRp1.out)
  have n_ := Aside0.mk ((HBx6.out.block p1 (pw_lt HRp1.out)).trans HRp1.out)
  clear HRp1
  have HRp1 := n_
  clear n_
  have HPPp2_6 := Aside0.mk (show p2 < p6 by rw [← hp6]; exact pw_lt HRp2.out)
  have n_ := Aside0.mk ((HBx6.out.block p2 (pw_lt HRp2.out)).trans HRp2.out)
  clear HRp2
  have HRp2 := n_
  clear n_
  have HPPp3_6 := Aside0.mk (show p3 < p6 by rw [← hp6]; exact pw_lt HRp3.out)
  have n_ := Aside0.mk ((HBx6.out.block p3 (pw_lt HRp3.out)).trans HRp3.out)
  clear HRp3
  have HRp3 := n_
  clear n_
  have HPPp4_6 := Aside0.mk (show p4 < p6 by rw [← hp6]; exact pw_lt HRp4.out)
  have n_ := Aside0.mk ((HBx6.out.block p4 (pw_lt HRp4.out)).trans HRp4.out)
  clear HRp4
  have HRp4 := n_
  clear n_
  have HPPp5_6 := Aside0.mk (show p5 < p6 by rw [← hp6]; exact pw_lt HRp5.out)
  have n_ := Aside0.mk ((HBx6.out.block p5 (pw_lt HRp5.out)).trans HRp5.out)
  clear HRp5
  have HRp5 := n_
  clear n_
  rw [hp6] at HCp6
  obtain ⟨a6_0, a6_1, a6_2, a6_3, a6_4, g6_0, g6_1, g6_2, g6_3, g6_4⟩ := cells5 HCp6.out
  have cq := (pw_cells HRq.out 0).1
  have eq0 : ¬ (q = p6) := by have := HPPq_6.out; omega
  have eq1 : ¬ (p6 = q) := by have := HPPq_6.out; omega
  go_wp2_with fail
  have HBs6 := Aside0.mk (below5 HBa6.out HPw6.out (.int .u8 8) (.string ⟨#[]⟩) (.bool false) (.bool false) (.int .u64 72057594037927935))
  have HRp6 := Aside0.mk (set5r HCp6.out (.int .u8 8) (.string ⟨#[]⟩) (.bool false) (.bool false) (.int .u64 72057594037927935))
  have n_ := Aside0.mk ((off5r _ p6 (.int .u8 8) (.string ⟨#[]⟩) (.bool false) (.bool false) (.int .u64 72057594037927935) q (by have := HPPq_6.out; omega)).trans HRq.out)
  clear HRq
  have HRq := n_
  clear n_
  have n_ := Aside0.mk ((off5r _ p6 (.int .u8 8) (.string ⟨#[]⟩) (.bool false) (.bool false) (.int .u64 72057594037927935) p0 (by have := HPPp0_6.out; omega)).trans HRp0.out)
  clear HRp0
  have HRp0 := n_
  clear n_
  have n_ := Aside0.mk ((off5r _ p6 (.int .u8 8) (.string ⟨#[]⟩) (.bool false) (.bool false) (.int .u64 72057594037927935) p1 (by have := HPPp1_6.out; omega)).trans HRp1.out)
  clear HRp1
  have HRp1 := n_
  clear n_
  have n_ := Aside0.mk ((off5r _ p6 (.int .u8 8) (.string ⟨#[]⟩) (.bool false) (.bool false) (.int .u64 72057594037927935) p2 (by have := HPPp2_6.out; omega)).trans HRp2.out)
  clear HRp2
  have HRp2 := n_
  clear n_
  have n_ := Aside0.mk ((off5r _ p6 (.int .u8 8) (.string ⟨#[]⟩) (.bool false) (.bool false) (.int .u64 72057594037927935) p3 (by have := HPPp3_6.out; omega)).trans HRp3.out)
  clear HRp3
  have HRp3 := n_
  clear n_
  have n_ := Aside0.mk ((off5r _ p6 (.int .u8 8) (.string ⟨#[]⟩) (.bool false) (.bool false) (.int .u64 72057594037927935) p4 (by have := HPPp4_6.out; omega)).trans HRp4.out)
  clear HRp4
  have HRp4 := n_
  clear n_
  have n_ := Aside0.mk ((off5r _ p6 (.int .u8 8) (.string ⟨#[]⟩) (.bool false) (.bool false) (.int .u64 72057594037927935) p5 (by have := HPPp5_6.out; omega)).trans HRp5.out)
  clear HRp5
  have HRp5 := n_
  clear n_
  clear cq eq0 eq1 a6_0 a6_1 a6_2 a6_3 a6_4 g6_0 g6_1 g6_2 g6_3 g6_4
  refine (tipstaffref07_Cat.calls kn nm m8 y _ HC2.out).mono ?_
  rintro e z ⟨rfl, hb⟩
  have HBz := Aside0.mk (below_then HBs6.out HBs6.out.size hb)
  have n_ := Aside0.mk ((hb.block q (pw_lt HRq.out)).trans HRq.out)
  clear HRq
  have HRq := n_
  clear n_
  have n_ := Aside0.mk ((hb.block p0 (pw_lt HRp0.out)).trans HRp0.out)
  clear HRp0
  have HRp0 := n_
  clear n_
  have n_ := Aside0.mk ((hb.block p1 (pw_lt HRp1.out)).trans HRp1.out)
  clear HRp1
  have HRp1 := n_
  clear n_
  have n_ := Aside0.mk ((hb.block p2 (pw_lt HRp2.out)).trans HRp2.out)
  clear HRp2
  have HRp2 := n_
  clear n_
  have n_ := Aside0.mk ((hb.block p3 (pw_lt HRp3.out)).trans HRp3.out)
  clear HRp3
  have HRp3 := n_
  clear n_
  have n_ := Aside0.mk ((hb.block p4 (pw_lt HRp4.out)).trans HRp4.out)
  clear HRp4
  have HRp4 := n_
  clear n_
  have n_ := Aside0.mk ((hb.block p5 (pw_lt HRp5.out)).trans HRp5.out)
  clear HRp5
  have HRp5 := n_
  clear n_
  have n_ := Aside0.mk ((hb.block p6 (pw_lt HRp6.out)).trans HRp6.out)
  clear HRp6
  have HRp6 := n_
  clear n_
  clear hb
  have c0_0 := fun n : Nat => (show (z.drewN n).cell? ⟨p0, 0, none⟩ = _ from (cells5 HRp0.out).z0)
  have c0_1 := fun n : Nat => (show (z.drewN n).cell? ⟨p0, 1, none⟩ = _ from (cells5 HRp0.out).z1)
  have c0_2 := fun n : Nat => (show (z.drewN n).cell? ⟨p0, 2, none⟩ = _ from (cells5 HRp0.out).z2)
  have c0_3 := fun n : Nat => (show (z.drewN n).cell? ⟨p0, 3, none⟩ = _ from (cells5 HRp0.out).z3)
  have c0_4 := fun n : Nat => (show (z.drewN n).cell? ⟨p0, 4, none⟩ = _ from (cells5 HRp0.out).z4)
  have c1_0 := fun n : Nat => (show (z.drewN n).cell? ⟨p1, 0, none⟩ = _ from (cells5 HRp1.out).z0)
  have c1_1 := fun n : Nat => (show (z.drewN n).cell? ⟨p1, 1, none⟩ = _ from (cells5 HRp1.out).z1)
  have c1_2 := fun n : Nat => (show (z.drewN n).cell? ⟨p1, 2, none⟩ = _ from (cells5 HRp1.out).z2)
  have c1_3 := fun n : Nat => (show (z.drewN n).cell? ⟨p1, 3, none⟩ = _ from (cells5 HRp1.out).z3)
  have c1_4 := fun n : Nat => (show (z.drewN n).cell? ⟨p1, 4, none⟩ = _ from (cells5 HRp1.out).z4)
  have c2_0 := fun n : Nat => (show (z.drewN n).cell? ⟨p2, 0, none⟩ = _ from (cells5 HRp2.out).z0)
  have c2_1 := fun n : Nat => (show (z.drewN n).cell? ⟨p2, 1, none⟩ = _ from (cells5 HRp2.out).z1)
  have c2_2 := fun n : Nat => (show (z.drewN n).cell? ⟨p2, 2, none⟩ = _ from (cells5 HRp2.out).z2)
  have c2_3 := fun n : Nat => (show (z.drewN n).cell? ⟨p2, 3, none⟩ = _ from (cells5 HRp2.out).z3)
  have c2_4 := fun n : Nat => (show (z.drewN n).cell? ⟨p2, 4, none⟩ = _ from (cells5 HRp2.out).z4)
  have c3_0 := fun n : Nat => (show (z.drewN n).cell? ⟨p3, 0, none⟩ = _ from (cells5 HRp3.out).z0)
  have c3_1 := fun n : Nat => (show (z.drewN n).cell? ⟨p3, 1, none⟩ = _ from (cells5 HRp3.out).z1)
  have c3_2 := fun n : Nat => (show (z.drewN n).cell? ⟨p3, 2, none⟩ = _ from (cells5 HRp3.out).z2)
  have c3_3 := fun n : Nat => (show (z.drewN n).cell? ⟨p3, 3, none⟩ = _ from (cells5 HRp3.out).z3)
  have c3_4 := fun n : Nat => (show (z.drewN n).cell? ⟨p3, 4, none⟩ = _ from (cells5 HRp3.out).z4)
  have c6_0 := fun n : Nat => (show (z.drewN n).cell? ⟨p6, 0, none⟩ = _ from (cells5 HRp6.out).z0)
  have c6_1 := fun n : Nat => (show (z.drewN n).cell? ⟨p6, 1, none⟩ = _ from (cells5 HRp6.out).z1)
  have c6_2 := fun n : Nat => (show (z.drewN n).cell? ⟨p6, 2, none⟩ = _ from (cells5 HRp6.out).z2)
  have c6_3 := fun n : Nat => (show (z.drewN n).cell? ⟨p6, 3, none⟩ = _ from (cells5 HRp6.out).z3)
  have c6_4 := fun n : Nat => (show (z.drewN n).cell? ⟨p6, 4, none⟩ = _ from (cells5 HRp6.out).z4)
  have hP2 : shl .u64 1 (i : Int) = P := HPP.out.symm
  go_wp2
  go_quiet (fail)
  go_wp2
  go_ret
  exact ⟨rfl, pw_below_drewN HBz.out _⟩
theorem commands_walk (n m : Int) (hn0 : 0 ≤ n) (hn1 : n ≤ 255) (hm0 : 0 ≤ m) (hm1 : m ≤ 255) (w : World) (hLd : Ld w) :
    Calls Tryd.prog 4 #[.int .u8 n, .int .u8 m] w fun e w' => e = .returned (.bool true) ∧ Below w.heap.size w w' := by
  obtain ⟨i, hi⟩ := Int.eq_ofNat_of_zero_le (show 0 ≤ n % 56 by omega)
  obtain ⟨j, hj⟩ := Int.eq_ofNat_of_zero_le (show 0 ≤ m % 13 by omega)
  have hi56 : i < 56 := by omega
  have hj13 : j < 13 := by omega
  obtain ⟨kn, hkn⟩ := (cat2_ev (nmI i)).rounds
  obtain ⟨⟨k6, t6, r6, w6, m6, y6⟩, h6⟩ : ∃ x : RT, ruleB (⟨#[43, 64]⟩ ++ nmI i) = x := ⟨_, rfl⟩
  have hy : y6 = (catB (nmI i)).2 := by have := cmd_cat ⟨i, hi56⟩; simp only at this; rw [h6] at this; exact this
  subst hy
  exact commands_any n m hn0 hn1 hm0 hm1 i hi hi56 j hj hj13 (nmI i) (ctI j) rfl _ _ (at_cmd i hi56) (cmd_size ⟨i, hi56⟩) (ct_size ⟨j, hj13⟩) (shl .u64 1 (i : Int)) (catB (ctI j)).1 rfl k6 t6 r6 w6 m6 (catB (nmI i)).2 (catB (nmI i)).1 200 kn
    (chk_eq (cmd_plus ⟨i, hi56⟩)) (chk_eq (cmd_minus ⟨i, hi56⟩)) (chk_eq (ct_plus ⟨j, hj13⟩)) (chk_eq (ct_minus ⟨j, hj13⟩)) (chkz_eq (cmd_xz ⟨i, hi56⟩)) h6 (chk_eq all_chk) (ct_cat ⟨j, hj13⟩) hkn w hLd
theorem wf_u8 {x : Int} (h : (Lit.int .u8 x).wf = true) : 0 ≤ x ∧ x ≤ 255 := by
  have e1 : IntKind.u8.min = 0 := rfl
  have e2 : IntKind.u8.max = 255 := rfl
  simpa [Lit.wf, e1, e2] using h
theorem RuleCommands_row (w : World) (a0 a1 : Int) (w0 : (Lit.int .u8 a0).wf = true) (w1 : (Lit.int .u8 a1).wf = true) (hL : laidMetH Tryd.prog theList w) (hS : w.ShapedOpen Tryd.prog) :
    Calls Tryd.prog 4 #[.int .u8 a0, .int .u8 a1] w fun e w' => e = .returned (.bool true) ∧ Below w.heap.size w w' :=
  commands_walk a0 a1 (wf_u8 w0).1 (wf_u8 w0).2 (wf_u8 w1).1 (wf_u8 w1).2 w (Ld.of_laid hL hS)
end Go.Proofs.YtencimfeipglaaaDoor.X
