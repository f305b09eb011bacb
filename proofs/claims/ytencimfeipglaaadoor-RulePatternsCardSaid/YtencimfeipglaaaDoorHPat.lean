/- RulePatterns: its walk, by hand, over the contracts. -/
import Derived.Test.YtencimfeipglaaaDoorERule
import Derived.Test.YtencimfeipglaaaDoorPRul3
import Derived.Test.YtencimfeipglaaaDoorXx2
import Derived.Test.YtencimfeipglaaaDoorXx10
import Derived.Test.YtencimfeipglaaaDoorXx1
import Derived.Test.YtencimfeipglaaaDoorELaidRule
import Derived.LoopTactic
set_option linter.unusedVariables false
set_option linter.unusedSimpArgs false
namespace Go.Proofs.YtencimfeipglaaaDoor.X
open Go.RowKit Go.Lib Go.Proofs.YtencimfeipglaaaDoorW.PrintWords Go.Proofs.YtencimfeipglaaaDoorW.PrintLast Go.Proofs.YtencimfeipglaaaDoorW.PrintMore

/-! What the words are. -/
theorem look_none (c : UInt8) (l : List UInt8) (h : c = 126 ∨ c = 37 ∨ c = 38 ∨ c = 62) : words11.lookup (c :: l) = none := by
  rw [List.lookup_eq_none_iff]
  intro p hp
  simp only [words11, List.mem_cons, List.not_mem_nil, or_false] at hp
  rcases h with rfl | rfl | rfl | rfl <;> rcases hp with rfl | rfl | rfl | rfl | rfl | rfl | rfl | rfl | rfl | rfl | rfl <;> rfl
theorem rb_of (m s : ByteArray) (c : UInt8) (r : List UInt8) (hm : m.data.toList = c :: r) (h : c = 126 ∨ c = 37 ∨ c = 38 ∨ c = 62) : ruleB (m ++ s) = finR (readL (c :: (r ++ s.data.toList))) := by
  unfold ruleB
  rw [app_data, hm, List.cons_append, look_none c _ h]
theorem fin_word (k : Int) (s : ByteArray) (a b : Bool) : finR (k, s, a, b, 0, wordB s) = if wordB s = true then (k, s, a, b, 0, true) else zeroR := by
  unfold finR
  cases h : wordB s <;> rfl
theorem rb_key (s : ByteArray) : ruleB (⟨#[126]⟩ ++ s) = if wordB s = true then (10, s, true, true, 0, true) else zeroR := by
  rw [rb_of ⟨#[126]⟩ s 126 [] rfl (.inl rfl), ← fin_word, ← mkB_data s]
  rfl
theorem rb_R (s : ByteArray) : ruleB (⟨#[37, 82, 126]⟩ ++ s) = if wordB s = true then (10, s, true, false, 0, true) else zeroR := by
  rw [rb_of ⟨#[37, 82, 126]⟩ s 37 [82, 126] rfl (.inr (.inl rfl)), ← fin_word]
  have := pct_R s.data.toList
  rw [mkB_data] at this
  exact this
theorem rb_W (s : ByteArray) : ruleB (⟨#[37, 87, 126]⟩ ++ s) = if wordB s = true then (10, s, false, true, 0, true) else zeroR := by
  rw [rb_of ⟨#[37, 87, 126]⟩ s 37 [87, 126] rfl (.inr (.inl rfl)), ← fin_word]
  have := pct_W s.data.toList
  rw [mkB_data] at this
  exact this
theorem rb_RW (s : ByteArray) : ruleB (⟨#[37, 82, 87, 126]⟩ ++ s) = if wordB s = true then (10, s, true, true, 0, true) else zeroR := by
  rw [rb_of ⟨#[37, 82, 87, 126]⟩ s 37 [82, 87, 126] rfl (.inr (.inl rfl)), ← fin_word]
  have := pct_RW s.data.toList
  rw [mkB_data] at this
  exact this
theorem rb_X (s : ByteArray) : ruleB (⟨#[37, 88, 126]⟩ ++ s) = zeroR := by
  rw [rb_of ⟨#[37, 88, 126]⟩ s 37 [88, 126] rfl (.inr (.inl rfl))]
  have h := cut_hit 126 [88] s.data.toList (by decide)
  show finR (pctL ([88] ++ 126 :: s.data.toList)) = zeroR
  unfold finR
  rw [if_neg]
  unfold pctL
  rw [h]
  simp
theorem rb_chan (s : ByteArray) : ruleB (⟨#[38]⟩ ++ s) = if wordB s = true then (12, s, false, false, 0, true) else zeroR := by
  rw [rb_of ⟨#[38]⟩ s 38 [] rfl (.inr (.inr (.inl rfl))), ← fin_word, ← mkB_data s]
  rfl
theorem rb_pass (s : ByteArray) : ruleB (⟨#[62]⟩ ++ s) = (5, s, false, false, 0, true) := by
  rw [rb_of ⟨#[62]⟩ s 62 [] rfl (.inr (.inr (.inr rfl)))]
  conv => rhs; rw [← mkB_data s]
  rfl

/-- rule.Parse at a mark and a text. -/
theorem parse_mark (m s : ByteArray) (hm : m.size ≤ 4) (hs : s.size ≤ 60) (k0 : Int) (t0 : ByteArray) (r0 w0 : Bool) (m0 : Int) (ok : Bool) (hx : ruleB (m ++ s) = (k0, t0, r0, w0, m0, ok)) (w : World) (hLd : Ld w) :
    Calls Tryd.prog 15 #[.string (m ++ s)] w fun e w' => e = .returned (.tuple #[.agg #[.int .u8 k0, .string t0, .bool r0, .bool w0, .int .u64 m0], .bool ok]) ∧ Below w.heap.size w w' := by
  refine rule_Parse.calls (m ++ s) k0 t0 r0 w0 m0 ok w hLd ?_
  unfold rule_Parse.f
  rw [if_pos (by rw [app_size]; omega), hx]

attribute [local go_sem high] eqA25
theorem shown17b : tipstafflaw17_shown.f = some true := by kernel_rfl
theorem str_one (s : ByteArray) : (s.toList == s.toList) = true := beq_self_eq_true _
set_option maxHeartbeats 16000000 in
set_option maxRecDepth 100000 in
theorem patterns_A (s : ByteArray) (hs : s.size ≤ 60) (hW : wordB s = true) (w : World) (hLd : Ld w) :
    Calls Tryd.prog 5 #[.string s] w fun e w' => e = .returned (.bool true) ∧ Below w.heap.size w w' := by
  obtain ⟨kw, hkw⟩ := (ref_word_ev s (by omega)).rounds
  have HKW := Aside0.mk hkw
  have HW := Aside0.mk hW
  have HS := Aside0.mk hs
  have HL := Aside0.mk hLd
  have hle : ¬ ((60 : Int) < (s.size : Int)) := by omega
  clear hkw hW hLd
  go_enter Tryd.func5, Tryd.ntmps5
  go_wp2_with fail
  refine (tipstafflaw17_shown.calls true w HL.out shown17b).mono ?_
  rintro e w1 ⟨rfl, hb⟩
  have HB := Aside0.mk hb
  clear hb
  go_wp2_with fail
  refine (tipstaffref01_Word.calls kw s (wordB s) _ HKW.out).mono ?_
  rintro e w2 ⟨rfl, hd⟩
  have n0_ := Aside0.mk (below_then HB.out HB.out.size hd.below)
  clear HB hd
  have HB := n0_
  clear n0_
  rw [HW.out]
  obtain ⟨w3, hw3, HB3, HC3⟩ := named_al w2 #[.string ⟨#[]⟩, .string ⟨#[]⟩, .string ⟨#[]⟩, .string ⟨#[]⟩] 39
  obtain ⟨q, hq⟩ : ∃ q, w2.heap.size = q := ⟨_, rfl⟩
  have HQ := Aside0.mk (show w.heap.size ≤ q by rw [← hq]; exact HB.out.size)
  have n0_ := Aside0.mk (below_then HB.out HB.out.size HB3.out)
  clear HB
  have HB := n0_
  clear n0_
  rw [hq] at HC3
  have z0 := (pw_cells HC3.out 0).1
  have z1 := (pw_cells HC3.out 1).1
  have z2 := (pw_cells HC3.out 2).1
  have z3 := (pw_cells HC3.out 3).1
  have f0 := (pw_cells HC3.out 0).2
  have f1 := (pw_cells HC3.out 1).2
  have f2 := (pw_cells HC3.out 2).2
  have f3 := (pw_cells HC3.out 3).2
  have hu39 := Tryd.underlying39
  go_wp2_with fail
  have HM := Aside0.mk (blk_put (blk_put (blk_put (blk_put HC3.out 0 (.string ⟨#[126]⟩) rfl) 1 (.string ⟨#[37, 82, 126]⟩) rfl) 2 (.string ⟨#[37, 87, 126]⟩) rfl) 3 (.string ⟨#[37, 82, 87, 126]⟩) rfl)
  have HB4 := Aside0.mk (below_set (below_set (below_set (below_set HB.out HQ.out (j := 0) (v := .string ⟨#[126]⟩)) HQ.out (j := 1) (v := .string ⟨#[37, 82, 126]⟩)) HQ.out (j := 2) (v := .string ⟨#[37, 87, 126]⟩)) HQ.out (j := 3) (v := .string ⟨#[37, 82, 87, 126]⟩))
  clear z0 z1 z2 z3 f0 f1 f2 f3 HB hw3
  go_loopw [6] (fun v6 wr => ∃ i : Nat, i ≤ 4 ∧ v6 = .int .i64 i ∧ Aside0 (Below w.heap.size w wr) ∧ Aside0 (wr.heap[q]? = some (.cells #[.string ⟨#[126]⟩, .string ⟨#[37, 82, 126]⟩, .string ⟨#[37, 87, 126]⟩, .string ⟨#[37, 82, 87, 126]⟩] 39 (0, 0)))) (fun v6 _ => 4 - (RowKit.intOf v6).toNat)
  case atStart => exact ⟨0, by omega, rfl, HB4, HM⟩
  case round =>
    obtain ⟨i, hi, rfl, HB, HM⟩ := hrel
    rcases (by omega : i = 0 ∨ i = 1 ∨ i = 2 ∨ i = 3 ∨ i = 4) with rfl | rfl | rfl | rfl | rfl
    · have z0 := (pw_cells HM.out 0).1
      have hsz : ¬ (9223372036854775807 < (⟨#[126]⟩ : ByteArray).size + s.size) := by have := HS.out; show ¬ (9223372036854775807 < 1 + s.size); omega
      go_wp2_with fail
      refine (parse_mark ⟨#[126]⟩ s (by decide) HS.out 10 s true true 0 true (by rw [rb_key, if_pos HW.out]) _ (HL.out.below HB.out)).mono ?_
      rintro e w5 ⟨rfl, hb⟩
      have HB5 := Aside0.mk (below_then HB.out HB.out.size hb)
      have HM5 := Aside0.mk ((hb.block q (pw_lt HM.out)).trans HM.out)
      clear hb hsz z0
      obtain ⟨w6, hw6, HB6, HC6⟩ := named_al w5 #[.int .u8 0, .string ⟨#[]⟩, .bool false, .bool false, .int .u64 0] 25
      have HM6 := Aside0.mk ((HB6.out.block q (pw_lt HM5.out)).trans HM5.out)
      have HB7 := Aside0.mk (below_then HB5.out HB5.out.size HB6.out)
      obtain ⟨p, hp⟩ : ∃ p, w5.heap.size = p := ⟨_, rfl⟩
      have HP := Aside0.mk (show q < p by rw [← hp]; exact pw_lt HM5.out)
      rw [hp] at HC6
      obtain ⟨a0, a1, a2, a3, a4, g0, g1, g2, g3, g4⟩ := cells5 HC6.out
      go_wp2
      go_roundw
      case rel => exact ⟨1, by omega, rfl, ⟨below5 HB7.out (by have := HP.out; have := HQ.out; omega) (.int .u8 10) (.string s) (.bool true) (.bool true) (.int .u64 0)⟩, ⟨(off5r w6 p (.int .u8 10) (.string s) (.bool true) (.bool true) (.int .u64 0) q (by have := HP.out; omega)).trans HM6.out⟩⟩
      case measure => simp [RowKit.intOf]
    · have z0 := (pw_cells HM.out 1).1
      have hsz : ¬ (9223372036854775807 < (⟨#[37, 82, 126]⟩ : ByteArray).size + s.size) := by have := HS.out; show ¬ (9223372036854775807 < 3 + s.size); omega
      go_wp2_with fail
      refine (parse_mark ⟨#[37, 82, 126]⟩ s (by decide) HS.out 10 s true false 0 true (by rw [rb_R, if_pos HW.out]) _ (HL.out.below HB.out)).mono ?_
      rintro e w5 ⟨rfl, hb⟩
      have HB5 := Aside0.mk (below_then HB.out HB.out.size hb)
      have HM5 := Aside0.mk ((hb.block q (pw_lt HM.out)).trans HM.out)
      clear hb hsz z0
      obtain ⟨w6, hw6, HB6, HC6⟩ := named_al w5 #[.int .u8 0, .string ⟨#[]⟩, .bool false, .bool false, .int .u64 0] 25
      have HM6 := Aside0.mk ((HB6.out.block q (pw_lt HM5.out)).trans HM5.out)
      have HB7 := Aside0.mk (below_then HB5.out HB5.out.size HB6.out)
      obtain ⟨p, hp⟩ : ∃ p, w5.heap.size = p := ⟨_, rfl⟩
      have HP := Aside0.mk (show q < p by rw [← hp]; exact pw_lt HM5.out)
      rw [hp] at HC6
      obtain ⟨a0, a1, a2, a3, a4, g0, g1, g2, g3, g4⟩ := cells5 HC6.out
      go_wp2
      go_roundw
      case rel => exact ⟨2, by omega, rfl, ⟨below5 HB7.out (by have := HP.out; have := HQ.out; omega) (.int .u8 10) (.string s) (.bool true) (.bool false) (.int .u64 0)⟩, ⟨(off5r w6 p (.int .u8 10) (.string s) (.bool true) (.bool false) (.int .u64 0) q (by have := HP.out; omega)).trans HM6.out⟩⟩
      case measure => simp [RowKit.intOf]
    · have z0 := (pw_cells HM.out 2).1
      have hsz : ¬ (9223372036854775807 < (⟨#[37, 87, 126]⟩ : ByteArray).size + s.size) := by have := HS.out; show ¬ (9223372036854775807 < 3 + s.size); omega
      go_wp2_with fail
      refine (parse_mark ⟨#[37, 87, 126]⟩ s (by decide) HS.out 10 s false true 0 true (by rw [rb_W, if_pos HW.out]) _ (HL.out.below HB.out)).mono ?_
      rintro e w5 ⟨rfl, hb⟩
      have HB5 := Aside0.mk (below_then HB.out HB.out.size hb)
      have HM5 := Aside0.mk ((hb.block q (pw_lt HM.out)).trans HM.out)
      clear hb hsz z0
      obtain ⟨w6, hw6, HB6, HC6⟩ := named_al w5 #[.int .u8 0, .string ⟨#[]⟩, .bool false, .bool false, .int .u64 0] 25
      have HM6 := Aside0.mk ((HB6.out.block q (pw_lt HM5.out)).trans HM5.out)
      have HB7 := Aside0.mk (below_then HB5.out HB5.out.size HB6.out)
      obtain ⟨p, hp⟩ : ∃ p, w5.heap.size = p := ⟨_, rfl⟩
      have HP := Aside0.mk (show q < p by rw [← hp]; exact pw_lt HM5.out)
      rw [hp] at HC6
      obtain ⟨a0, a1, a2, a3, a4, g0, g1, g2, g3, g4⟩ := cells5 HC6.out
      go_wp2
      go_roundw
      case rel => exact ⟨3, by omega, rfl, ⟨below5 HB7.out (by have := HP.out; have := HQ.out; omega) (.int .u8 10) (.string s) (.bool false) (.bool true) (.int .u64 0)⟩, ⟨(off5r w6 p (.int .u8 10) (.string s) (.bool false) (.bool true) (.int .u64 0) q (by have := HP.out; omega)).trans HM6.out⟩⟩
      case measure => simp [RowKit.intOf]
    · have z0 := (pw_cells HM.out 3).1
      have hsz : ¬ (9223372036854775807 < (⟨#[37, 82, 87, 126]⟩ : ByteArray).size + s.size) := by have := HS.out; show ¬ (9223372036854775807 < 4 + s.size); omega
      go_wp2_with fail
      refine (parse_mark ⟨#[37, 82, 87, 126]⟩ s (by decide) HS.out 10 s true true 0 true (by rw [rb_RW, if_pos HW.out]) _ (HL.out.below HB.out)).mono ?_
      rintro e w5 ⟨rfl, hb⟩
      have HB5 := Aside0.mk (below_then HB.out HB.out.size hb)
      have HM5 := Aside0.mk ((hb.block q (pw_lt HM.out)).trans HM.out)
      clear hb hsz z0
      obtain ⟨w6, hw6, HB6, HC6⟩ := named_al w5 #[.int .u8 0, .string ⟨#[]⟩, .bool false, .bool false, .int .u64 0] 25
      have HM6 := Aside0.mk ((HB6.out.block q (pw_lt HM5.out)).trans HM5.out)
      have HB7 := Aside0.mk (below_then HB5.out HB5.out.size HB6.out)
      obtain ⟨p, hp⟩ : ∃ p, w5.heap.size = p := ⟨_, rfl⟩
      have HP := Aside0.mk (show q < p by rw [← hp]; exact pw_lt HM5.out)
      rw [hp] at HC6
      obtain ⟨a0, a1, a2, a3, a4, g0, g1, g2, g3, g4⟩ := cells5 HC6.out
      go_wp2
      go_roundw
      case rel => exact ⟨4, by omega, rfl, ⟨below5 HB7.out (by have := HP.out; have := HQ.out; omega) (.int .u8 10) (.string s) (.bool true) (.bool true) (.int .u64 0)⟩, ⟨(off5r w6 p (.int .u8 10) (.string s) (.bool true) (.bool true) (.int .u64 0) q (by have := HP.out; omega)).trans HM6.out⟩⟩
      case measure => simp [RowKit.intOf]
    · have hsz0 : ¬ (9223372036854775807 < (⟨#[38]⟩ : ByteArray).size + s.size) := by have := HS.out; show ¬ (9223372036854775807 < 1 + s.size); omega
      go_wp2_with fail
      refine (parse_mark ⟨#[38]⟩ s (by decide) HS.out 12 s false false 0 true (by rw [rb_chan, if_pos HW.out]) _ (HL.out.below HB.out)).mono ?_
      rintro e u0 ⟨rfl, hb⟩
      have HBu0 := Aside0.mk (below_then HB.out HB.out.size hb)
      clear hb hsz0
      obtain ⟨x0, hx0, HBx0, HC0⟩ := named_al u0 #[.int .u8 0, .string ⟨#[]⟩, .bool false, .bool false, .int .u64 0] 25
      have HBa0 := Aside0.mk (below_then HBu0.out HBu0.out.size HBx0.out)
      obtain ⟨p0, hp0⟩ : ∃ p, u0.heap.size = p := ⟨_, rfl⟩
      have HPw0 := Aside0.mk (show w.heap.size ≤ p0 by rw [← hp0]; exact HBu0.out.size)
      rw [hp0] at HC0
      obtain ⟨a0_0, a0_1, a0_2, a0_3, a0_4, g0_0, g0_1, g0_2, g0_3, g0_4⟩ := cells5 HC0.out
      have hsz1 : ¬ (9223372036854775807 < (⟨#[62]⟩ : ByteArray).size + s.size) := by have := HS.out; show ¬ (9223372036854775807 < 1 + s.size); omega
      go_wp2_with fail
      have HBs0 := Aside0.mk (below5 HBa0.out HPw0.out (.int .u8 12) (.string s) (.bool false) (.bool false) (.int .u64 0))
      have HR0 := Aside0.mk (set5r HC0.out (.int .u8 12) (.string s) (.bool false) (.bool false) (.int .u64 0))
      clear a0_0 a0_1 a0_2 a0_3 a0_4 g0_0 g0_1 g0_2 g0_3 g0_4
      refine (parse_mark ⟨#[62]⟩ s (by decide) HS.out 5 s false false 0 true (by rw [rb_pass]) _ (HL.out.below HBs0.out)).mono ?_
      rintro e u1 ⟨rfl, hb⟩
      have HBu1 := Aside0.mk (below_then HBs0.out HBs0.out.size hb)
      have n_ := Aside0.mk ((hb.block p0 (pw_lt HR0.out)).trans HR0.out)
      clear HR0
      have HR0 := n_
      clear n_
      clear hb hsz1
      obtain ⟨x1, hx1, HBx1, HC1⟩ := named_al u1 #[.int .u8 0, .string ⟨#[]⟩, .bool false, .bool false, .int .u64 0] 25
      have HBa1 := Aside0.mk (below_then HBu1.out HBu1.out.size HBx1.out)
      obtain ⟨p1, hp1⟩ : ∃ p, u1.heap.size = p := ⟨_, rfl⟩
      have HPw1 := Aside0.mk (show w.heap.size ≤ p1 by rw [← hp1]; exact HBu1.out.size)
      have HPP0_1 := Aside0.mk (show p0 < p1 by rw [← hp1]; exact pw_lt HR0.out)
      have n_ := Aside0.mk ((HBx1.out.block p0 (pw_lt HR0.out)).trans HR0.out)
      clear HR0
      have HR0 := n_
      clear n_
      rw [hp1] at HC1
      obtain ⟨a1_0, a1_1, a1_2, a1_3, a1_4, g1_0, g1_1, g1_2, g1_3, g1_4⟩ := cells5 HC1.out
      have hsz2 : ¬ (9223372036854775807 < (⟨#[37, 88, 126]⟩ : ByteArray).size + s.size) := by have := HS.out; show ¬ (9223372036854775807 < 3 + s.size); omega
      go_wp2_with fail
      have HBs1 := Aside0.mk (below5 HBa1.out HPw1.out (.int .u8 5) (.string s) (.bool false) (.bool false) (.int .u64 0))
      have HR1 := Aside0.mk (set5r HC1.out (.int .u8 5) (.string s) (.bool false) (.bool false) (.int .u64 0))
      have n_ := Aside0.mk ((off5r _ p1 (.int .u8 5) (.string s) (.bool false) (.bool false) (.int .u64 0) p0 (by have := HPP0_1.out; omega)).trans HR0.out)
      clear HR0
      have HR0 := n_
      clear n_
      clear a1_0 a1_1 a1_2 a1_3 a1_4 g1_0 g1_1 g1_2 g1_3 g1_4
      refine (parse_mark ⟨#[37, 88, 126]⟩ s (by decide) HS.out 0 ⟨#[]⟩ false false 0 false (by rw [rb_X]; rfl) _ (HL.out.below HBs1.out)).mono ?_
      rintro e u2 ⟨rfl, hb⟩
      have HBu2 := Aside0.mk (below_then HBs1.out HBs1.out.size hb)
      have n_ := Aside0.mk ((hb.block p0 (pw_lt HR0.out)).trans HR0.out)
      clear HR0
      have HR0 := n_
      clear n_
      have n_ := Aside0.mk ((hb.block p1 (pw_lt HR1.out)).trans HR1.out)
      clear HR1
      have HR1 := n_
      clear n_
      clear hb hsz2
      obtain ⟨x2, hx2, HBx2, HC2⟩ := named_al u2 #[.int .u8 0, .string ⟨#[]⟩, .bool false, .bool false, .int .u64 0] 25
      have HBa2 := Aside0.mk (below_then HBu2.out HBu2.out.size HBx2.out)
      obtain ⟨p2, hp2⟩ : ∃ p, u2.heap.size = p := ⟨_, rfl⟩
      have HPw2 := Aside0.mk (show w.heap.size ≤ p2 by rw [← hp2]; exact HBu2.out.size)
      have HPP0_2 := Aside0.mk (show p0 < p2 by rw [← hp2]; exact pw_lt HR0.out)
      have n_ := Aside0.mk ((HBx2.out.block p0 (pw_lt HR0.out)).trans HR0.out)
      clear HR0
      have HR0 := n_
      clear n_
      have HPP1_2 := Aside0.mk (show p1 < p2 by rw [← hp2]; exact pw_lt HR1.out)
      have n_ := Aside0.mk ((HBx2.out.block p1 (pw_lt HR1.out)).trans HR1.out)
      clear HR1
      have HR1 := n_
      clear n_
      rw [hp2] at HC2
      obtain ⟨a2_0, a2_1, a2_2, a2_3, a2_4, g2_0, g2_1, g2_2, g2_3, g2_4⟩ := cells5 HC2.out
      obtain ⟨c0_0, c0_1, c0_2, c0_3, c0_4, d0_0, d0_1, d0_2, d0_3, d0_4⟩ := cells5 HR0.out
      have e0 : ¬ (p0 = p2) := by have := HPP0_2.out; omega
      have e0b : ¬ (p2 = p0) := by have := HPP0_2.out; omega
      obtain ⟨c1_0, c1_1, c1_2, c1_3, c1_4, d1_0, d1_1, d1_2, d1_3, d1_4⟩ := cells5 HR1.out
      have e1 : ¬ (p1 = p2) := by have := HPP1_2.out; omega
      have e1b : ¬ (p2 = p1) := by have := HPP1_2.out; omega
      go_wp2
      go_ret
      exact ⟨rfl, below5 HBa2.out HPw2.out _ _ _ _ _⟩
set_option maxHeartbeats 16000000 in
set_option maxRecDepth 100000 in
theorem patterns_B (s : ByteArray) (hs : s.size ≤ 60) (hW : wordB s = false) (w : World) (hLd : Ld w) :
    Calls Tryd.prog 5 #[.string s] w fun e w' => e = .returned (.bool true) ∧ Below w.heap.size w w' := by
  obtain ⟨kw, hkw⟩ := (ref_word_ev s (by omega)).rounds
  have HKW := Aside0.mk hkw
  have HW := Aside0.mk hW
  have HS := Aside0.mk hs
  have HL := Aside0.mk hLd
  have hle : ¬ ((60 : Int) < (s.size : Int)) := by omega
  clear hkw hW hLd
  go_enter Tryd.func5, Tryd.ntmps5
  go_wp2_with fail
  refine (tipstafflaw17_shown.calls true w HL.out shown17b).mono ?_
  rintro e w1 ⟨rfl, hb⟩
  have HB := Aside0.mk hb
  clear hb
  go_wp2_with fail
  refine (tipstaffref01_Word.calls kw s (wordB s) _ HKW.out).mono ?_
  rintro e w2 ⟨rfl, hd⟩
  have n0_ := Aside0.mk (below_then HB.out HB.out.size hd.below)
  clear HB hd
  have HB := n0_
  clear n0_
  rw [HW.out]
  obtain ⟨w3, hw3, HB3, HC3⟩ := named_al w2 #[.string ⟨#[]⟩, .string ⟨#[]⟩, .string ⟨#[]⟩, .string ⟨#[]⟩] 39
  obtain ⟨q, hq⟩ : ∃ q, w2.heap.size = q := ⟨_, rfl⟩
  have HQ := Aside0.mk (show w.heap.size ≤ q by rw [← hq]; exact HB.out.size)
  have n0_ := Aside0.mk (below_then HB.out HB.out.size HB3.out)
  clear HB
  have HB := n0_
  clear n0_
  rw [hq] at HC3
  have z0 := (pw_cells HC3.out 0).1
  have z1 := (pw_cells HC3.out 1).1
  have z2 := (pw_cells HC3.out 2).1
  have z3 := (pw_cells HC3.out 3).1
  have f0 := (pw_cells HC3.out 0).2
  have f1 := (pw_cells HC3.out 1).2
  have f2 := (pw_cells HC3.out 2).2
  have f3 := (pw_cells HC3.out 3).2
  have hu39 := Tryd.underlying39
  go_wp2_with fail
  have HM := Aside0.mk (blk_put (blk_put (blk_put (blk_put HC3.out 0 (.string ⟨#[126]⟩) rfl) 1 (.string ⟨#[37, 82, 126]⟩) rfl) 2 (.string ⟨#[37, 87, 126]⟩) rfl) 3 (.string ⟨#[37, 82, 87, 126]⟩) rfl)
  have HB4 := Aside0.mk (below_set (below_set (below_set (below_set HB.out HQ.out (j := 0) (v := .string ⟨#[126]⟩)) HQ.out (j := 1) (v := .string ⟨#[37, 82, 126]⟩)) HQ.out (j := 2) (v := .string ⟨#[37, 87, 126]⟩)) HQ.out (j := 3) (v := .string ⟨#[37, 82, 87, 126]⟩))
  clear z0 z1 z2 z3 f0 f1 f2 f3 HB hw3
  go_loopw [6] (fun v6 wr => ∃ i : Nat, i ≤ 4 ∧ v6 = .int .i64 i ∧ Aside0 (Below w.heap.size w wr) ∧ Aside0 (wr.heap[q]? = some (.cells #[.string ⟨#[126]⟩, .string ⟨#[37, 82, 126]⟩, .string ⟨#[37, 87, 126]⟩, .string ⟨#[37, 82, 87, 126]⟩] 39 (0, 0)))) (fun v6 _ => 4 - (RowKit.intOf v6).toNat)
  case atStart => exact ⟨0, by omega, rfl, HB4, HM⟩
  case round =>
    obtain ⟨i, hi, rfl, HB, HM⟩ := hrel
    rcases (by omega : i = 0 ∨ i = 1 ∨ i = 2 ∨ i = 3 ∨ i = 4) with rfl | rfl | rfl | rfl | rfl
    · have z0 := (pw_cells HM.out 0).1
      have hsz : ¬ (9223372036854775807 < (⟨#[126]⟩ : ByteArray).size + s.size) := by have := HS.out; show ¬ (9223372036854775807 < 1 + s.size); omega
      go_wp2_with fail
      refine (parse_mark ⟨#[126]⟩ s (by decide) HS.out 0 ⟨#[]⟩ false false 0 false (by rw [rb_key, if_neg (by rw [HW.out]; exact Bool.false_ne_true)]; rfl) _ (HL.out.below HB.out)).mono ?_
      rintro e w5 ⟨rfl, hb⟩
      have HB5 := Aside0.mk (below_then HB.out HB.out.size hb)
      have HM5 := Aside0.mk ((hb.block q (pw_lt HM.out)).trans HM.out)
      clear hb hsz z0
      obtain ⟨w6, hw6, HB6, HC6⟩ := named_al w5 #[.int .u8 0, .string ⟨#[]⟩, .bool false, .bool false, .int .u64 0] 25
      have HM6 := Aside0.mk ((HB6.out.block q (pw_lt HM5.out)).trans HM5.out)
      have HB7 := Aside0.mk (below_then HB5.out HB5.out.size HB6.out)
      obtain ⟨p, hp⟩ : ∃ p, w5.heap.size = p := ⟨_, rfl⟩
      have HP := Aside0.mk (show q < p by rw [← hp]; exact pw_lt HM5.out)
      rw [hp] at HC6
      obtain ⟨a0, a1, a2, a3, a4, g0, g1, g2, g3, g4⟩ := cells5 HC6.out
      go_wp2
      go_roundw
      case rel => exact ⟨1, by omega, rfl, ⟨below5 HB7.out (by have := HP.out; have := HQ.out; omega) (.int .u8 0) (.string ⟨#[]⟩) (.bool false) (.bool false) (.int .u64 0)⟩, ⟨(off5r w6 p (.int .u8 0) (.string ⟨#[]⟩) (.bool false) (.bool false) (.int .u64 0) q (by have := HP.out; omega)).trans HM6.out⟩⟩
      case measure => simp [RowKit.intOf]
    · have z0 := (pw_cells HM.out 1).1
      have hsz : ¬ (9223372036854775807 < (⟨#[37, 82, 126]⟩ : ByteArray).size + s.size) := by have := HS.out; show ¬ (9223372036854775807 < 3 + s.size); omega
      go_wp2_with fail
      refine (parse_mark ⟨#[37, 82, 126]⟩ s (by decide) HS.out 0 ⟨#[]⟩ false false 0 false (by rw [rb_R, if_neg (by rw [HW.out]; exact Bool.false_ne_true)]; rfl) _ (HL.out.below HB.out)).mono ?_
      rintro e w5 ⟨rfl, hb⟩
      have HB5 := Aside0.mk (below_then HB.out HB.out.size hb)
      have HM5 := Aside0.mk ((hb.block q (pw_lt HM.out)).trans HM.out)
      clear hb hsz z0
      obtain ⟨w6, hw6, HB6, HC6⟩ := named_al w5 #[.int .u8 0, .string ⟨#[]⟩, .bool false, .bool false, .int .u64 0] 25
      have HM6 := Aside0.mk ((HB6.out.block q (pw_lt HM5.out)).trans HM5.out)
      have HB7 := Aside0.mk (below_then HB5.out HB5.out.size HB6.out)
      obtain ⟨p, hp⟩ : ∃ p, w5.heap.size = p := ⟨_, rfl⟩
      have HP := Aside0.mk (show q < p by rw [← hp]; exact pw_lt HM5.out)
      rw [hp] at HC6
      obtain ⟨a0, a1, a2, a3, a4, g0, g1, g2, g3, g4⟩ := cells5 HC6.out
      go_wp2
      go_roundw
      case rel => exact ⟨2, by omega, rfl, ⟨below5 HB7.out (by have := HP.out; have := HQ.out; omega) (.int .u8 0) (.string ⟨#[]⟩) (.bool false) (.bool false) (.int .u64 0)⟩, ⟨(off5r w6 p (.int .u8 0) (.string ⟨#[]⟩) (.bool false) (.bool false) (.int .u64 0) q (by have := HP.out; omega)).trans HM6.out⟩⟩
      case measure => simp [RowKit.intOf]
    · have z0 := (pw_cells HM.out 2).1
      have hsz : ¬ (9223372036854775807 < (⟨#[37, 87, 126]⟩ : ByteArray).size + s.size) := by have := HS.out; show ¬ (9223372036854775807 < 3 + s.size); omega
      go_wp2_with fail
      refine (parse_mark ⟨#[37, 87, 126]⟩ s (by decide) HS.out 0 ⟨#[]⟩ false false 0 false (by rw [rb_W, if_neg (by rw [HW.out]; exact Bool.false_ne_true)]; rfl) _ (HL.out.below HB.out)).mono ?_
      rintro e w5 ⟨rfl, hb⟩
      have HB5 := Aside0.mk (below_then HB.out HB.out.size hb)
      have HM5 := Aside0.mk ((hb.block q (pw_lt HM.out)).trans HM.out)
      clear hb hsz z0
      obtain ⟨w6, hw6, HB6, HC6⟩ := named_al w5 #[.int .u8 0, .string ⟨#[]⟩, .bool false, .bool false, .int .u64 0] 25
      have HM6 := Aside0.mk ((HB6.out.block q (pw_lt HM5.out)).trans HM5.out)
      have HB7 := Aside0.mk (below_then HB5.out HB5.out.size HB6.out)
      obtain ⟨p, hp⟩ : ∃ p, w5.heap.size = p := ⟨_, rfl⟩
      have HP := Aside0.mk (show q < p by rw [← hp]; exact pw_lt HM5.out)
      rw [hp] at HC6
      obtain ⟨a0, a1, a2, a3, a4, g0, g1, g2, g3, g4⟩ := cells5 HC6.out
      go_wp2
      go_roundw
      case rel => exact ⟨3, by omega, rfl, ⟨below5 HB7.out (by have := HP.out; have := HQ.out; omega) (.int .u8 0) (.string ⟨#[]⟩) (.bool false) (.bool false) (.int .u64 0)⟩, ⟨(off5r w6 p (.int .u8 0) (.string ⟨#[]⟩) (.bool false) (.bool false) (.int .u64 0) q (by have := HP.out; omega)).trans HM6.out⟩⟩
      case measure => simp [RowKit.intOf]
    · have z0 := (pw_cells HM.out 3).1
      have hsz : ¬ (9223372036854775807 < (⟨#[37, 82, 87, 126]⟩ : ByteArray).size + s.size) := by have := HS.out; show ¬ (9223372036854775807 < 4 + s.size); omega
      go_wp2_with fail
      refine (parse_mark ⟨#[37, 82, 87, 126]⟩ s (by decide) HS.out 0 ⟨#[]⟩ false false 0 false (by rw [rb_RW, if_neg (by rw [HW.out]; exact Bool.false_ne_true)]; rfl) _ (HL.out.below HB.out)).mono ?_
      rintro e w5 ⟨rfl, hb⟩
      have HB5 := Aside0.mk (below_then HB.out HB.out.size hb)
      have HM5 := Aside0.mk ((hb.block q (pw_lt HM.out)).trans HM.out)
      clear hb hsz z0
      obtain ⟨w6, hw6, HB6, HC6⟩ := named_al w5 #[.int .u8 0, .string ⟨#[]⟩, .bool false, .bool false, .int .u64 0] 25
      have HM6 := Aside0.mk ((HB6.out.block q (pw_lt HM5.out)).trans HM5.out)
      have HB7 := Aside0.mk (below_then HB5.out HB5.out.size HB6.out)
      obtain ⟨p, hp⟩ : ∃ p, w5.heap.size = p := ⟨_, rfl⟩
      have HP := Aside0.mk (show q < p by rw [← hp]; exact pw_lt HM5.out)
      rw [hp] at HC6
      obtain ⟨a0, a1, a2, a3, a4, g0, g1, g2, g3, g4⟩ := cells5 HC6.out
      go_wp2
      go_roundw
      case rel => exact ⟨4, by omega, rfl, ⟨below5 HB7.out (by have := HP.out; have := HQ.out; omega) (.int .u8 0) (.string ⟨#[]⟩) (.bool false) (.bool false) (.int .u64 0)⟩, ⟨(off5r w6 p (.int .u8 0) (.string ⟨#[]⟩) (.bool false) (.bool false) (.int .u64 0) q (by have := HP.out; omega)).trans HM6.out⟩⟩
      case measure => simp [RowKit.intOf]
    · have hsz0 : ¬ (9223372036854775807 < (⟨#[38]⟩ : ByteArray).size + s.size) := by have := HS.out; show ¬ (9223372036854775807 < 1 + s.size); omega
      go_wp2_with fail
      refine (parse_mark ⟨#[38]⟩ s (by decide) HS.out 0 ⟨#[]⟩ false false 0 false (by rw [rb_chan, if_neg (by rw [HW.out]; exact Bool.false_ne_true)]; rfl) _ (HL.out.below HB.out)).mono ?_
      rintro e u0 ⟨rfl, hb⟩
      have HBu0 := Aside0.mk (below_then HB.out HB.out.size hb)
      clear hb hsz0
      obtain ⟨x0, hx0, HBx0, HC0⟩ := named_al u0 #[.int .u8 0, .string ⟨#[]⟩, .bool false, .bool false, .int .u64 0] 25
      have HBa0 := Aside0.mk (below_then HBu0.out HBu0.out.size HBx0.out)
      obtain ⟨p0, hp0⟩ : ∃ p, u0.heap.size = p := ⟨_, rfl⟩
      have HPw0 := Aside0.mk (show w.heap.size ≤ p0 by rw [← hp0]; exact HBu0.out.size)
      rw [hp0] at HC0
      obtain ⟨a0_0, a0_1, a0_2, a0_3, a0_4, g0_0, g0_1, g0_2, g0_3, g0_4⟩ := cells5 HC0.out
      have hsz1 : ¬ (9223372036854775807 < (⟨#[62]⟩ : ByteArray).size + s.size) := by have := HS.out; show ¬ (9223372036854775807 < 1 + s.size); omega
      go_wp2_with fail
      have HBs0 := Aside0.mk (below5 HBa0.out HPw0.out (.int .u8 0) (.string ⟨#[]⟩) (.bool false) (.bool false) (.int .u64 0))
      have HR0 := Aside0.mk (set5r HC0.out (.int .u8 0) (.string ⟨#[]⟩) (.bool false) (.bool false) (.int .u64 0))
      clear a0_0 a0_1 a0_2 a0_3 a0_4 g0_0 g0_1 g0_2 g0_3 g0_4
      refine (parse_mark ⟨#[62]⟩ s (by decide) HS.out 5 s false false 0 true (by rw [rb_pass]) _ (HL.out.below HBs0.out)).mono ?_
      rintro e u1 ⟨rfl, hb⟩
      have HBu1 := Aside0.mk (below_then HBs0.out HBs0.out.size hb)
      have n_ := Aside0.mk ((hb.block p0 (pw_lt HR0.out)).trans HR0.out)
      clear HR0
      have HR0 := n_
      clear n_
      clear hb hsz1
      obtain ⟨x1, hx1, HBx1, HC1⟩ := named_al u1 #[.int .u8 0, .string ⟨#[]⟩, .bool false, .bool false, .int .u64 0] 25
      have HBa1 := Aside0.mk (below_then HBu1.out HBu1.out.size HBx1.out)
      obtain ⟨p1, hp1⟩ : ∃ p, u1.heap.size = p := ⟨_, rfl⟩
      have HPw1 := Aside0.mk (show w.heap.size ≤ p1 by rw [← hp1]; exact HBu1.out.size)
      have HPP0_1 := Aside0.mk (show p0 < p1 by rw [← hp1]; exact pw_lt HR0.out)
      have n_ := Aside0.mk ((HBx1.out.block p0 (pw_lt HR0.out)).trans HR0.out)
      clear HR0
      have HR0 := n_
      clear n_
      rw [hp1] at HC1
      obtain ⟨a1_0, a1_1, a1_2, a1_3, a1_4, g1_0, g1_1, g1_2, g1_3, g1_4⟩ := cells5 HC1.out
      have hsz2 : ¬ (9223372036854775807 < (⟨#[37, 88, 126]⟩ : ByteArray).size + s.size) := by have := HS.out; show ¬ (9223372036854775807 < 3 + s.size); omega
      go_wp2_with fail
      have HBs1 := Aside0.mk (below5 HBa1.out HPw1.out (.int .u8 5) (.string s) (.bool false) (.bool false) (.int .u64 0))
      have HR1 := Aside0.mk (set5r HC1.out (.int .u8 5) (.string s) (.bool false) (.bool false) (.int .u64 0))
      have n_ := Aside0.mk ((off5r _ p1 (.int .u8 5) (.string s) (.bool false) (.bool false) (.int .u64 0) p0 (by have := HPP0_1.out; omega)).trans HR0.out)
      clear HR0
      have HR0 := n_
      clear n_
      clear a1_0 a1_1 a1_2 a1_3 a1_4 g1_0 g1_1 g1_2 g1_3 g1_4
      refine (parse_mark ⟨#[37, 88, 126]⟩ s (by decide) HS.out 0 ⟨#[]⟩ false false 0 false (by rw [rb_X]; rfl) _ (HL.out.below HBs1.out)).mono ?_
      rintro e u2 ⟨rfl, hb⟩
      have HBu2 := Aside0.mk (below_then HBs1.out HBs1.out.size hb)
      have n_ := Aside0.mk ((hb.block p0 (pw_lt HR0.out)).trans HR0.out)
      clear HR0
      have HR0 := n_
      clear n_
      have n_ := Aside0.mk ((hb.block p1 (pw_lt HR1.out)).trans HR1.out)
      clear HR1
      have HR1 := n_
      clear n_
      clear hb hsz2
      obtain ⟨x2, hx2, HBx2, HC2⟩ := named_al u2 #[.int .u8 0, .string ⟨#[]⟩, .bool false, .bool false, .int .u64 0] 25
      have HBa2 := Aside0.mk (below_then HBu2.out HBu2.out.size HBx2.out)
      obtain ⟨p2, hp2⟩ : ∃ p, u2.heap.size = p := ⟨_, rfl⟩
      have HPw2 := Aside0.mk (show w.heap.size ≤ p2 by rw [← hp2]; exact HBu2.out.size)
      have HPP0_2 := Aside0.mk (show p0 < p2 by rw [← hp2]; exact pw_lt HR0.out)
      have n_ := Aside0.mk ((HBx2.out.block p0 (pw_lt HR0.out)).trans HR0.out)
      clear HR0
      have HR0 := n_
      clear n_
      have HPP1_2 := Aside0.mk (show p1 < p2 by rw [← hp2]; exact pw_lt HR1.out)
      have n_ := Aside0.mk ((HBx2.out.block p1 (pw_lt HR1.out)).trans HR1.out)
      clear HR1
      have HR1 := n_
      clear n_
      rw [hp2] at HC2
      obtain ⟨a2_0, a2_1, a2_2, a2_3, a2_4, g2_0, g2_1, g2_2, g2_3, g2_4⟩ := cells5 HC2.out
      obtain ⟨c0_0, c0_1, c0_2, c0_3, c0_4, d0_0, d0_1, d0_2, d0_3, d0_4⟩ := cells5 HR0.out
      have e0 : ¬ (p0 = p2) := by have := HPP0_2.out; omega
      have e0b : ¬ (p2 = p0) := by have := HPP0_2.out; omega
      obtain ⟨c1_0, c1_1, c1_2, c1_3, c1_4, d1_0, d1_1, d1_2, d1_3, d1_4⟩ := cells5 HR1.out
      have e1 : ¬ (p1 = p2) := by have := HPP1_2.out; omega
      have e1b : ¬ (p2 = p1) := by have := HPP1_2.out; omega
      go_wp2
      go_ret
      exact ⟨rfl, below5 HBa2.out HPw2.out _ _ _ _ _⟩
set_option maxHeartbeats 16000000 in
set_option maxRecDepth 100000 in
theorem patterns_C (t s : ByteArray) (ht : 60 < t.size) (hc : t.extract 0 60 = s) (hs : s.size ≤ 60) (hW : wordB s = true) (w : World) (hLd : Ld w) :
    Calls Tryd.prog 5 #[.string t] w fun e w' => e = .returned (.bool true) ∧ Below w.heap.size w w' := by
  obtain ⟨kw, hkw⟩ := (ref_word_ev s (by omega)).rounds
  have HKW := Aside0.mk hkw
  have HW := Aside0.mk hW
  have HS := Aside0.mk hs
  have HL := Aside0.mk hLd
  have hle : (60 : Int) < (t.size : Int) := by omega
  have hle2 : (60 : Int) ≤ (t.size : Int) := by omega
  have hle3 : 60 ≤ t.size := by omega
  clear hkw hW hLd
  go_enter Tryd.func5, Tryd.ntmps5
  go_wp2_with fail
  refine (tipstafflaw17_shown.calls true w HL.out shown17b).mono ?_
  rintro e w1 ⟨rfl, hb⟩
  have HB := Aside0.mk hb
  clear hb
  go_wp2_with fail
  refine (tipstaffref01_Word.calls kw s (wordB s) _ HKW.out).mono ?_
  rintro e w2 ⟨rfl, hd⟩
  have n0_ := Aside0.mk (below_then HB.out HB.out.size hd.below)
  clear HB hd
  have HB := n0_
  clear n0_
  rw [HW.out]
  obtain ⟨w3, hw3, HB3, HC3⟩ := named_al w2 #[.string ⟨#[]⟩, .string ⟨#[]⟩, .string ⟨#[]⟩, .string ⟨#[]⟩] 39
  obtain ⟨q, hq⟩ : ∃ q, w2.heap.size = q := ⟨_, rfl⟩
  have HQ := Aside0.mk (show w.heap.size ≤ q by rw [← hq]; exact HB.out.size)
  have n0_ := Aside0.mk (below_then HB.out HB.out.size HB3.out)
  clear HB
  have HB := n0_
  clear n0_
  rw [hq] at HC3
  have z0 := (pw_cells HC3.out 0).1
  have z1 := (pw_cells HC3.out 1).1
  have z2 := (pw_cells HC3.out 2).1
  have z3 := (pw_cells HC3.out 3).1
  have f0 := (pw_cells HC3.out 0).2
  have f1 := (pw_cells HC3.out 1).2
  have f2 := (pw_cells HC3.out 2).2
  have f3 := (pw_cells HC3.out 3).2
  have hu39 := Tryd.underlying39
  go_wp2_with fail
  have HM := Aside0.mk (blk_put (blk_put (blk_put (blk_put HC3.out 0 (.string ⟨#[126]⟩) rfl) 1 (.string ⟨#[37, 82, 126]⟩) rfl) 2 (.string ⟨#[37, 87, 126]⟩) rfl) 3 (.string ⟨#[37, 82, 87, 126]⟩) rfl)
  have HB4 := Aside0.mk (below_set (below_set (below_set (below_set HB.out HQ.out (j := 0) (v := .string ⟨#[126]⟩)) HQ.out (j := 1) (v := .string ⟨#[37, 82, 126]⟩)) HQ.out (j := 2) (v := .string ⟨#[37, 87, 126]⟩)) HQ.out (j := 3) (v := .string ⟨#[37, 82, 87, 126]⟩))
  clear z0 z1 z2 z3 f0 f1 f2 f3 HB hw3
  go_loopw [6] (fun v6 wr => ∃ i : Nat, i ≤ 4 ∧ v6 = .int .i64 i ∧ Aside0 (Below w.heap.size w wr) ∧ Aside0 (wr.heap[q]? = some (.cells #[.string ⟨#[126]⟩, .string ⟨#[37, 82, 126]⟩, .string ⟨#[37, 87, 126]⟩, .string ⟨#[37, 82, 87, 126]⟩] 39 (0, 0)))) (fun v6 _ => 4 - (RowKit.intOf v6).toNat)
  case atStart => exact ⟨0, by omega, rfl, HB4, HM⟩
  case round =>
    obtain ⟨i, hi, rfl, HB, HM⟩ := hrel
    rcases (by omega : i = 0 ∨ i = 1 ∨ i = 2 ∨ i = 3 ∨ i = 4) with rfl | rfl | rfl | rfl | rfl
    · have z0 := (pw_cells HM.out 0).1
      have hsz : ¬ (9223372036854775807 < (⟨#[126]⟩ : ByteArray).size + s.size) := by have := HS.out; show ¬ (9223372036854775807 < 1 + s.size); omega
      go_wp2_with fail
      refine (parse_mark ⟨#[126]⟩ s (by decide) HS.out 10 s true true 0 true (by rw [rb_key, if_pos HW.out]) _ (HL.out.below HB.out)).mono ?_
      rintro e w5 ⟨rfl, hb⟩
      have HB5 := Aside0.mk (below_then HB.out HB.out.size hb)
      have HM5 := Aside0.mk ((hb.block q (pw_lt HM.out)).trans HM.out)
      clear hb hsz z0
      obtain ⟨w6, hw6, HB6, HC6⟩ := named_al w5 #[.int .u8 0, .string ⟨#[]⟩, .bool false, .bool false, .int .u64 0] 25
      have HM6 := Aside0.mk ((HB6.out.block q (pw_lt HM5.out)).trans HM5.out)
      have HB7 := Aside0.mk (below_then HB5.out HB5.out.size HB6.out)
      obtain ⟨p, hp⟩ : ∃ p, w5.heap.size = p := ⟨_, rfl⟩
      have HP := Aside0.mk (show q < p by rw [← hp]; exact pw_lt HM5.out)
      rw [hp] at HC6
      obtain ⟨a0, a1, a2, a3, a4, g0, g1, g2, g3, g4⟩ := cells5 HC6.out
      go_wp2
      go_roundw
      case rel => exact ⟨1, by omega, rfl, ⟨below5 HB7.out (by have := HP.out; have := HQ.out; omega) (.int .u8 10) (.string s) (.bool true) (.bool true) (.int .u64 0)⟩, ⟨(off5r w6 p (.int .u8 10) (.string s) (.bool true) (.bool true) (.int .u64 0) q (by have := HP.out; omega)).trans HM6.out⟩⟩
      case measure => simp [RowKit.intOf]
    · have z0 := (pw_cells HM.out 1).1
      have hsz : ¬ (9223372036854775807 < (⟨#[37, 82, 126]⟩ : ByteArray).size + s.size) := by have := HS.out; show ¬ (9223372036854775807 < 3 + s.size); omega
      go_wp2_with fail
      refine (parse_mark ⟨#[37, 82, 126]⟩ s (by decide) HS.out 10 s true false 0 true (by rw [rb_R, if_pos HW.out]) _ (HL.out.below HB.out)).mono ?_
      rintro e w5 ⟨rfl, hb⟩
      have HB5 := Aside0.mk (below_then HB.out HB.out.size hb)
      have HM5 := Aside0.mk ((hb.block q (pw_lt HM.out)).trans HM.out)
      clear hb hsz z0
      obtain ⟨w6, hw6, HB6, HC6⟩ := named_al w5 #[.int .u8 0, .string ⟨#[]⟩, .bool false, .bool false, .int .u64 0] 25
      have HM6 := Aside0.mk ((HB6.out.block q (pw_lt HM5.out)).trans HM5.out)
      have HB7 := Aside0.mk (below_then HB5.out HB5.out.size HB6.out)
      obtain ⟨p, hp⟩ : ∃ p, w5.heap.size = p := ⟨_, rfl⟩
      have HP := Aside0.mk (show q < p by rw [← hp]; exact pw_lt HM5.out)
      rw [hp] at HC6
      obtain ⟨a0, a1, a2, a3, a4, g0, g1, g2, g3, g4⟩ := cells5 HC6.out
      go_wp2
      go_roundw
      case rel => exact ⟨2, by omega, rfl, ⟨below5 HB7.out (by have := HP.out; have := HQ.out; omega) (.int .u8 10) (.string s) (.bool true) (.bool false) (.int .u64 0)⟩, ⟨(off5r w6 p (.int .u8 10) (.string s) (.bool true) (.bool false) (.int .u64 0) q (by have := HP.out; omega)).trans HM6.out⟩⟩
      case measure => simp [RowKit.intOf]
    · have z0 := (pw_cells HM.out 2).1
      have hsz : ¬ (9223372036854775807 < (⟨#[37, 87, 126]⟩ : ByteArray).size + s.size) := by have := HS.out; show ¬ (9223372036854775807 < 3 + s.size); omega
      go_wp2_with fail
      refine (parse_mark ⟨#[37, 87, 126]⟩ s (by decide) HS.out 10 s false true 0 true (by rw [rb_W, if_pos HW.out]) _ (HL.out.below HB.out)).mono ?_
      rintro e w5 ⟨rfl, hb⟩
      have HB5 := Aside0.mk (below_then HB.out HB.out.size hb)
      have HM5 := Aside0.mk ((hb.block q (pw_lt HM.out)).trans HM.out)
      clear hb hsz z0
      obtain ⟨w6, hw6, HB6, HC6⟩ := named_al w5 #[.int .u8 0, .string ⟨#[]⟩, .bool false, .bool false, .int .u64 0] 25
      have HM6 := Aside0.mk ((HB6.out.block q (pw_lt HM5.out)).trans HM5.out)
      have HB7 := Aside0.mk (below_then HB5.out HB5.out.size HB6.out)
      obtain ⟨p, hp⟩ : ∃ p, w5.heap.size = p := ⟨_, rfl⟩
      have HP := Aside0.mk (show q < p by rw [← hp]; exact pw_lt HM5.out)
      rw [hp] at HC6
      obtain ⟨a0, a1, a2, a3, a4, g0, g1, g2, g3, g4⟩ := cells5 HC6.out
      go_wp2
      go_roundw
      case rel => exact ⟨3, by omega, rfl, ⟨below5 HB7.out (by have := HP.out; have := HQ.out; omega) (.int .u8 10) (.string s) (.bool false) (.bool true) (.int .u64 0)⟩, ⟨(off5r w6 p (.int .u8 10) (.string s) (.bool false) (.bool true) (.int .u64 0) q (by have := HP.out; omega)).trans HM6.out⟩⟩
      case measure => simp [RowKit.intOf]
    · have z0 := (pw_cells HM.out 3).1
      have hsz : ¬ (9223372036854775807 < (⟨#[37, 82, 87, 126]⟩ : ByteArray).size + s.size) := by have := HS.out; show ¬ (9223372036854775807 < 4 + s.size); omega
      go_wp2_with fail
      refine (parse_mark ⟨#[37, 82, 87, 126]⟩ s (by decide) HS.out 10 s true true 0 true (by rw [rb_RW, if_pos HW.out]) _ (HL.out.below HB.out)).mono ?_
      rintro e w5 ⟨rfl, hb⟩
      have HB5 := Aside0.mk (below_then HB.out HB.out.size hb)
      have HM5 := Aside0.mk ((hb.block q (pw_lt HM.out)).trans HM.out)
      clear hb hsz z0
      obtain ⟨w6, hw6, HB6, HC6⟩ := named_al w5 #[.int .u8 0, .string ⟨#[]⟩, .bool false, .bool false, .int .u64 0] 25
      have HM6 := Aside0.mk ((HB6.out.block q (pw_lt HM5.out)).trans HM5.out)
      have HB7 := Aside0.mk (below_then HB5.out HB5.out.size HB6.out)
      obtain ⟨p, hp⟩ : ∃ p, w5.heap.size = p := ⟨_, rfl⟩
      have HP := Aside0.mk (show q < p by rw [← hp]; exact pw_lt HM5.out)
      rw [hp] at HC6
      obtain ⟨a0, a1, a2, a3, a4, g0, g1, g2, g3, g4⟩ := cells5 HC6.out
      go_wp2
      go_roundw
      case rel => exact ⟨4, by omega, rfl, ⟨below5 HB7.out (by have := HP.out; have := HQ.out; omega) (.int .u8 10) (.string s) (.bool true) (.bool true) (.int .u64 0)⟩, ⟨(off5r w6 p (.int .u8 10) (.string s) (.bool true) (.bool true) (.int .u64 0) q (by have := HP.out; omega)).trans HM6.out⟩⟩
      case measure => simp [RowKit.intOf]
    · have hsz0 : ¬ (9223372036854775807 < (⟨#[38]⟩ : ByteArray).size + s.size) := by have := HS.out; show ¬ (9223372036854775807 < 1 + s.size); omega
      go_wp2_with fail
      refine (parse_mark ⟨#[38]⟩ s (by decide) HS.out 12 s false false 0 true (by rw [rb_chan, if_pos HW.out]) _ (HL.out.below HB.out)).mono ?_
      rintro e u0 ⟨rfl, hb⟩
      have HBu0 := Aside0.mk (below_then HB.out HB.out.size hb)
      clear hb hsz0
      obtain ⟨x0, hx0, HBx0, HC0⟩ := named_al u0 #[.int .u8 0, .string ⟨#[]⟩, .bool false, .bool false, .int .u64 0] 25
      have HBa0 := Aside0.mk (below_then HBu0.out HBu0.out.size HBx0.out)
      obtain ⟨p0, hp0⟩ : ∃ p, u0.heap.size = p := ⟨_, rfl⟩
      have HPw0 := Aside0.mk (show w.heap.size ≤ p0 by rw [← hp0]; exact HBu0.out.size)
      rw [hp0] at HC0
      obtain ⟨a0_0, a0_1, a0_2, a0_3, a0_4, g0_0, g0_1, g0_2, g0_3, g0_4⟩ := cells5 HC0.out
      have hsz1 : ¬ (9223372036854775807 < (⟨#[62]⟩ : ByteArray).size + s.size) := by have := HS.out; show ¬ (9223372036854775807 < 1 + s.size); omega
      go_wp2_with fail
      have HBs0 := Aside0.mk (below5 HBa0.out HPw0.out (.int .u8 12) (.string s) (.bool false) (.bool false) (.int .u64 0))
      have HR0 := Aside0.mk (set5r HC0.out (.int .u8 12) (.string s) (.bool false) (.bool false) (.int .u64 0))
      clear a0_0 a0_1 a0_2 a0_3 a0_4 g0_0 g0_1 g0_2 g0_3 g0_4
      refine (parse_mark ⟨#[62]⟩ s (by decide) HS.out 5 s false false 0 true (by rw [rb_pass]) _ (HL.out.below HBs0.out)).mono ?_
      rintro e u1 ⟨rfl, hb⟩
      have HBu1 := Aside0.mk (below_then HBs0.out HBs0.out.size hb)
      have n_ := Aside0.mk ((hb.block p0 (pw_lt HR0.out)).trans HR0.out)
      clear HR0
      have HR0 := n_
      clear n_
      clear hb hsz1
      obtain ⟨x1, hx1, HBx1, HC1⟩ := named_al u1 #[.int .u8 0, .string ⟨#[]⟩, .bool false, .bool false, .int .u64 0] 25
      have HBa1 := Aside0.mk (below_then HBu1.out HBu1.out.size HBx1.out)
      obtain ⟨p1, hp1⟩ : ∃ p, u1.heap.size = p := ⟨_, rfl⟩
      have HPw1 := Aside0.mk (show w.heap.size ≤ p1 by rw [← hp1]; exact HBu1.out.size)
      have HPP0_1 := Aside0.mk (show p0 < p1 by rw [← hp1]; exact pw_lt HR0.out)
      have n_ := Aside0.mk ((HBx1.out.block p0 (pw_lt HR0.out)).trans HR0.out)
      clear HR0
      have HR0 := n_
      clear n_
      rw [hp1] at HC1
      obtain ⟨a1_0, a1_1, a1_2, a1_3, a1_4, g1_0, g1_1, g1_2, g1_3, g1_4⟩ := cells5 HC1.out
      have hsz2 : ¬ (9223372036854775807 < (⟨#[37, 88, 126]⟩ : ByteArray).size + s.size) := by have := HS.out; show ¬ (9223372036854775807 < 3 + s.size); omega
      go_wp2_with fail
      have HBs1 := Aside0.mk (below5 HBa1.out HPw1.out (.int .u8 5) (.string s) (.bool false) (.bool false) (.int .u64 0))
      have HR1 := Aside0.mk (set5r HC1.out (.int .u8 5) (.string s) (.bool false) (.bool false) (.int .u64 0))
      have n_ := Aside0.mk ((off5r _ p1 (.int .u8 5) (.string s) (.bool false) (.bool false) (.int .u64 0) p0 (by have := HPP0_1.out; omega)).trans HR0.out)
      clear HR0
      have HR0 := n_
      clear n_
      clear a1_0 a1_1 a1_2 a1_3 a1_4 g1_0 g1_1 g1_2 g1_3 g1_4
      refine (parse_mark ⟨#[37, 88, 126]⟩ s (by decide) HS.out 0 ⟨#[]⟩ false false 0 false (by rw [rb_X]; rfl) _ (HL.out.below HBs1.out)).mono ?_
      rintro e u2 ⟨rfl, hb⟩
      have HBu2 := Aside0.mk (below_then HBs1.out HBs1.out.size hb)
      have n_ := Aside0.mk ((hb.block p0 (pw_lt HR0.out)).trans HR0.out)
      clear HR0
      have HR0 := n_
      clear n_
      have n_ := Aside0.mk ((hb.block p1 (pw_lt HR1.out)).trans HR1.out)
      clear HR1
      have HR1 := n_
      clear n_
      clear hb hsz2
      obtain ⟨x2, hx2, HBx2, HC2⟩ := named_al u2 #[.int .u8 0, .string ⟨#[]⟩, .bool false, .bool false, .int .u64 0] 25
      have HBa2 := Aside0.mk (below_then HBu2.out HBu2.out.size HBx2.out)
      obtain ⟨p2, hp2⟩ : ∃ p, u2.heap.size = p := ⟨_, rfl⟩
      have HPw2 := Aside0.mk (show w.heap.size ≤ p2 by rw [← hp2]; exact HBu2.out.size)
      have HPP0_2 := Aside0.mk (show p0 < p2 by rw [← hp2]; exact pw_lt HR0.out)
      have n_ := Aside0.mk ((HBx2.out.block p0 (pw_lt HR0.out)).trans HR0.out)
      clear HR0
      have HR0 := n_
      clear n_
      have HPP1_2 := Aside0.mk (show p1 < p2 by rw [← hp2]; exact pw_lt HR1.out)
      have n_ := Aside0.mk ((HBx2.out.block p1 (pw_lt HR1.out)).trans HR1.out)
      clear HR1
      have HR1 := n_
      clear n_
      rw [hp2] at HC2
      obtain ⟨a2_0, a2_1, a2_2, a2_3, a2_4, g2_0, g2_1, g2_2, g2_3, g2_4⟩ := cells5 HC2.out
      obtain ⟨c0_0, c0_1, c0_2, c0_3, c0_4, d0_0, d0_1, d0_2, d0_3, d0_4⟩ := cells5 HR0.out
      have e0 : ¬ (p0 = p2) := by have := HPP0_2.out; omega
      have e0b : ¬ (p2 = p0) := by have := HPP0_2.out; omega
      obtain ⟨c1_0, c1_1, c1_2, c1_3, c1_4, d1_0, d1_1, d1_2, d1_3, d1_4⟩ := cells5 HR1.out
      have e1 : ¬ (p1 = p2) := by have := HPP1_2.out; omega
      have e1b : ¬ (p2 = p1) := by have := HPP1_2.out; omega
      go_wp2
      go_ret
      exact ⟨rfl, below5 HBa2.out HPw2.out _ _ _ _ _⟩
set_option maxHeartbeats 16000000 in
set_option maxRecDepth 100000 in
theorem patterns_D (t s : ByteArray) (ht : 60 < t.size) (hc : t.extract 0 60 = s) (hs : s.size ≤ 60) (hW : wordB s = false) (w : World) (hLd : Ld w) :
    Calls Tryd.prog 5 #[.string t] w fun e w' => e = .returned (.bool true) ∧ Below w.heap.size w w' := by
  obtain ⟨kw, hkw⟩ := (ref_word_ev s (by omega)).rounds
  have HKW := Aside0.mk hkw
  have HW := Aside0.mk hW
  have HS := Aside0.mk hs
  have HL := Aside0.mk hLd
  have hle : (60 : Int) < (t.size : Int) := by omega
  have hle2 : (60 : Int) ≤ (t.size : Int) := by omega
  have hle3 : 60 ≤ t.size := by omega
  clear hkw hW hLd
  go_enter Tryd.func5, Tryd.ntmps5
  go_wp2_with fail
  refine (tipstafflaw17_shown.calls true w HL.out shown17b).mono ?_
  rintro e w1 ⟨rfl, hb⟩
  have HB := Aside0.mk hb
  clear hb
  go_wp2_with fail
  refine (tipstaffref01_Word.calls kw s (wordB s) _ HKW.out).mono ?_
  rintro e w2 ⟨rfl, hd⟩
  have n0_ := Aside0.mk (below_then HB.out HB.out.size hd.below)
  clear HB hd
  have HB := n0_
  clear n0_
  rw [HW.out]
  obtain ⟨w3, hw3, HB3, HC3⟩ := named_al w2 #[.string ⟨#[]⟩, .string ⟨#[]⟩, .string ⟨#[]⟩, .string ⟨#[]⟩] 39
  obtain ⟨q, hq⟩ : ∃ q, w2.heap.size = q := ⟨_, rfl⟩
  have HQ := Aside0.mk (show w.heap.size ≤ q by rw [← hq]; exact HB.out.size)
  have n0_ := Aside0.mk (below_then HB.out HB.out.size HB3.out)
  clear HB
  have HB := n0_
  clear n0_
  rw [hq] at HC3
  have z0 := (pw_cells HC3.out 0).1
  have z1 := (pw_cells HC3.out 1).1
  have z2 := (pw_cells HC3.out 2).1
  have z3 := (pw_cells HC3.out 3).1
  have f0 := (pw_cells HC3.out 0).2
  have f1 := (pw_cells HC3.out 1).2
  have f2 := (pw_cells HC3.out 2).2
  have f3 := (pw_cells HC3.out 3).2
  have hu39 := Tryd.underlying39
  go_wp2_with fail
  have HM := Aside0.mk (blk_put (blk_put (blk_put (blk_put HC3.out 0 (.string ⟨#[126]⟩) rfl) 1 (.string ⟨#[37, 82, 126]⟩) rfl) 2 (.string ⟨#[37, 87, 126]⟩) rfl) 3 (.string ⟨#[37, 82, 87, 126]⟩) rfl)
  have HB4 := Aside0.mk (below_set (below_set (below_set (below_set HB.out HQ.out (j := 0) (v := .string ⟨#[126]⟩)) HQ.out (j := 1) (v := .string ⟨#[37, 82, 126]⟩)) HQ.out (j := 2) (v := .string ⟨#[37, 87, 126]⟩)) HQ.out (j := 3) (v := .string ⟨#[37, 82, 87, 126]⟩))
  clear z0 z1 z2 z3 f0 f1 f2 f3 HB hw3
  go_loopw [6] (fun v6 wr => ∃ i : Nat, i ≤ 4 ∧ v6 = .int .i64 i ∧ Aside0 (Below w.heap.size w wr) ∧ Aside0 (wr.heap[q]? = some (.cells #[.string ⟨#[126]⟩, .string ⟨#[37, 82, 126]⟩, .string ⟨#[37, 87, 126]⟩, .string ⟨#[37, 82, 87, 126]⟩] 39 (0, 0)))) (fun v6 _ => 4 - (RowKit.intOf v6).toNat)
  case atStart => exact ⟨0, by omega, rfl, HB4, HM⟩
  case round =>
    obtain ⟨i, hi, rfl, HB, HM⟩ := hrel
    rcases (by omega : i = 0 ∨ i = 1 ∨ i = 2 ∨ i = 3 ∨ i = 4) with rfl | rfl | rfl | rfl | rfl
    · have z0 := (pw_cells HM.out 0).1
      have hsz : ¬ (9223372036854775807 < (⟨#[126]⟩ : ByteArray).size + s.size) := by have := HS.out; show ¬ (9223372036854775807 < 1 + s.size); omega
      go_wp2_with fail
      refine (parse_mark ⟨#[126]⟩ s (by decide) HS.out 0 ⟨#[]⟩ false false 0 false (by rw [rb_key, if_neg (by rw [HW.out]; exact Bool.false_ne_true)]; rfl) _ (HL.out.below HB.out)).mono ?_
      rintro e w5 ⟨rfl, hb⟩
      have HB5 := Aside0.mk (below_then HB.out HB.out.size hb)
      have HM5 := Aside0.mk ((hb.block q (pw_lt HM.out)).trans HM.out)
      clear hb hsz z0
      obtain ⟨w6, hw6, HB6, HC6⟩ := named_al w5 #[.int .u8 0, .string ⟨#[]⟩, .bool false, .bool false, .int .u64 0] 25
      have HM6 := Aside0.mk ((HB6.out.block q (pw_lt HM5.out)).trans HM5.out)
      have HB7 := Aside0.mk (below_then HB5.out HB5.out.size HB6.out)
      obtain ⟨p, hp⟩ : ∃ p, w5.heap.size = p := ⟨_, rfl⟩
      have HP := Aside0.mk (show q < p by rw [← hp]; exact pw_lt HM5.out)
      rw [hp] at HC6
      obtain ⟨a0, a1, a2, a3, a4, g0, g1, g2, g3, g4⟩ := cells5 HC6.out
      go_wp2
      go_roundw
      case rel => exact ⟨1, by omega, rfl, ⟨below5 HB7.out (by have := HP.out; have := HQ.out; omega) (.int .u8 0) (.string ⟨#[]⟩) (.bool false) (.bool false) (.int .u64 0)⟩, ⟨(off5r w6 p (.int .u8 0) (.string ⟨#[]⟩) (.bool false) (.bool false) (.int .u64 0) q (by have := HP.out; omega)).trans HM6.out⟩⟩
      case measure => simp [RowKit.intOf]
    · have z0 := (pw_cells HM.out 1).1
      have hsz : ¬ (9223372036854775807 < (⟨#[37, 82, 126]⟩ : ByteArray).size + s.size) := by have := HS.out; show ¬ (9223372036854775807 < 3 + s.size); omega
      go_wp2_with fail
      refine (parse_mark ⟨#[37, 82, 126]⟩ s (by decide) HS.out 0 ⟨#[]⟩ false false 0 false (by rw [rb_R, if_neg (by rw [HW.out]; exact Bool.false_ne_true)]; rfl) _ (HL.out.below HB.out)).mono ?_
      rintro e w5 ⟨rfl, hb⟩
      have HB5 := Aside0.mk (below_then HB.out HB.out.size hb)
      have HM5 := Aside0.mk ((hb.block q (pw_lt HM.out)).trans HM.out)
      clear hb hsz z0
      obtain ⟨w6, hw6, HB6, HC6⟩ := named_al w5 #[.int .u8 0, .string ⟨#[]⟩, .bool false, .bool false, .int .u64 0] 25
      have HM6 := Aside0.mk ((HB6.out.block q (pw_lt HM5.out)).trans HM5.out)
      have HB7 := Aside0.mk (below_then HB5.out HB5.out.size HB6.out)
      obtain ⟨p, hp⟩ : ∃ p, w5.heap.size = p := ⟨_, rfl⟩
      have HP := Aside0.mk (show q < p by rw [← hp]; exact pw_lt HM5.out)
      rw [hp] at HC6
      obtain ⟨a0, a1, a2, a3, a4, g0, g1, g2, g3, g4⟩ := cells5 HC6.out
      go_wp2
      go_roundw
      case rel => exact ⟨2, by omega, rfl, ⟨below5 HB7.out (by have := HP.out; have := HQ.out; omega) (.int .u8 0) (.string ⟨#[]⟩) (.bool false) (.bool false) (.int .u64 0)⟩, ⟨(off5r w6 p (.int .u8 0) (.string ⟨#[]⟩) (.bool false) (.bool false) (.int .u64 0) q (by have := HP.out; omega)).trans HM6.out⟩⟩
      case measure => simp [RowKit.intOf]
    · have z0 := (pw_cells HM.out 2).1
      have hsz : ¬ (9223372036854775807 < (⟨#[37, 87, 126]⟩ : ByteArray).size + s.size) := by have := HS.out; show ¬ (9223372036854775807 < 3 + s.size); omega
      go_wp2_with fail
      refine (parse_mark ⟨#[37, 87, 126]⟩ s (by decide) HS.out 0 ⟨#[]⟩ false false 0 false (by rw [rb_W, if_neg (by rw [HW.out]; exact Bool.false_ne_true)]; rfl) _ (HL.out.below HB.out)).mono ?_
      rintro e w5 ⟨rfl, hb⟩
      have HB5 := Aside0.mk (below_then HB.out HB.out.size hb)
      have HM5 := Aside0.mk ((hb.block q (pw_lt HM.out)).trans HM.out)
      clear hb hsz z0
      obtain ⟨w6, hw6, HB6, HC6⟩ := named_al w5 #[.int .u8 0, .string ⟨#[]⟩, .bool false, .bool false, .int .u64 0] 25
      have HM6 := Aside0.mk ((HB6.out.block q (pw_lt HM5.out)).trans HM5.out)
      have HB7 := Aside0.mk (below_then HB5.out HB5.out.size HB6.out)
      obtain ⟨p, hp⟩ : ∃ p, w5.heap.size = p := ⟨_, rfl⟩
      have HP := Aside0.mk (show q < p by rw [← hp]; exact pw_lt HM5.out)
      rw [hp] at HC6
      obtain ⟨a0, a1, a2, a3, a4, g0, g1, g2, g3, g4⟩ := cells5 HC6.out
      go_wp2
      go_roundw
      case rel => exact ⟨3, by omega, rfl, ⟨below5 HB7.out (by have := HP.out; have := HQ.out; omega) (.int .u8 0) (.string ⟨#[]⟩) (.bool false) (.bool false) (.int .u64 0)⟩, ⟨(off5r w6 p (.int .u8 0) (.string ⟨#[]⟩) (.bool false) (.bool false) (.int .u64 0) q (by have := HP.out; omega)).trans HM6.out⟩⟩
      case measure => simp [RowKit.intOf]
    · have z0 := (pw_cells HM.out 3).1
      have hsz : ¬ (9223372036854775807 < (⟨#[37, 82, 87, 126]⟩ : ByteArray).size + s.size) := by have := HS.out; show ¬ (9223372036854775807 < 4 + s.size); omega
      go_wp2_with fail
      refine (parse_mark ⟨#[37, 82, 87, 126]⟩ s (by decide) HS.out 0 ⟨#[]⟩ false false 0 false (by rw [rb_RW, if_neg (by rw [HW.out]; exact Bool.false_ne_true)]; rfl) _ (HL.out.below HB.out)).mono ?_
      rintro e w5 ⟨rfl, hb⟩
      have HB5 := Aside0.mk (below_then HB.out HB.out.size hb)
      have HM5 := Aside0.mk ((hb.block q (pw_lt HM.out)).trans HM.out)
      clear hb hsz z0
      obtain ⟨w6, hw6, HB6, HC6⟩ := named_al w5 #[.int .u8 0, .string ⟨#[]⟩, .bool false, .bool false, .int .u64 0] 25
      have HM6 := Aside0.mk ((HB6.out.block q (pw_lt HM5.out)).trans HM5.out)
      have HB7 := Aside0.mk (below_then HB5.out HB5.out.size HB6.out)
      obtain ⟨p, hp⟩ : ∃ p, w5.heap.size = p := ⟨_, rfl⟩
      have HP := Aside0.mk (show q < p by rw [← hp]; exact pw_lt HM5.out)
      rw [hp] at HC6
      obtain ⟨a0, a1, a2, a3, a4, g0, g1, g2, g3, g4⟩ := cells5 HC6.out
      go_wp2
      go_roundw
      case rel => exact ⟨4, by omega, rfl, ⟨below5 HB7.out (by have := HP.out; have := HQ.out; omega) (.int .u8 0) (.string ⟨#[]⟩) (.bool false) (.bool false) (.int .u64 0)⟩, ⟨(off5r w6 p (.int .u8 0) (.string ⟨#[]⟩) (.bool false) (.bool false) (.int .u64 0) q (by have := HP.out; omega)).trans HM6.out⟩⟩
      case measure => simp [RowKit.intOf]
    · have hsz0 : ¬ (9223372036854775807 < (⟨#[38]⟩ : ByteArray).size + s.size) := by have := HS.out; show ¬ (9223372036854775807 < 1 + s.size); omega
      go_wp2_with fail
      refine (parse_mark ⟨#[38]⟩ s (by decide) HS.out 0 ⟨#[]⟩ false false 0 false (by rw [rb_chan, if_neg (by rw [HW.out]; exact Bool.false_ne_true)]; rfl) _ (HL.out.below HB.out)).mono ?_
      rintro e u0 ⟨rfl, hb⟩
      have HBu0 := Aside0.mk (below_then HB.out HB.out.size hb)
      clear hb hsz0
      obtain ⟨x0, hx0, HBx0, HC0⟩ := named_al u0 #[.int .u8 0, .string ⟨#[]⟩, .bool false, .bool false, .int .u64 0] 25
      have HBa0 := Aside0.mk (below_then HBu0.out HBu0.out.size HBx0.out)
      obtain ⟨p0, hp0⟩ : ∃ p, u0.heap.size = p := ⟨_, rfl⟩
      have HPw0 := Aside0.mk (show w.heap.size ≤ p0 by rw [← hp0]; exact HBu0.out.size)
      rw [hp0] at HC0
      obtain ⟨a0_0, a0_1, a0_2, a0_3, a0_4, g0_0, g0_1, g0_2, g0_3, g0_4⟩ := cells5 HC0.out
      have hsz1 : ¬ (9223372036854775807 < (⟨#[62]⟩ : ByteArray).size + s.size) := by have := HS.out; show ¬ (9223372036854775807 < 1 + s.size); omega
      go_wp2_with fail
      have HBs0 := Aside0.mk (below5 HBa0.out HPw0.out (.int .u8 0) (.string ⟨#[]⟩) (.bool false) (.bool false) (.int .u64 0))
      have HR0 := Aside0.mk (set5r HC0.out (.int .u8 0) (.string ⟨#[]⟩) (.bool false) (.bool false) (.int .u64 0))
      clear a0_0 a0_1 a0_2 a0_3 a0_4 g0_0 g0_1 g0_2 g0_3 g0_4
      refine (parse_mark ⟨#[62]⟩ s (by decide) HS.out 5 s false false 0 true (by rw [rb_pass]) _ (HL.out.below HBs0.out)).mono ?_
      rintro e u1 ⟨rfl, hb⟩
      have HBu1 := Aside0.mk (below_then HBs0.out HBs0.out.size hb)
      have n_ := Aside0.mk ((hb.block p0 (pw_lt HR0.out)).trans HR0.out)
      clear HR0
      have HR0 := n_
      clear n_
      clear hb hsz1
      obtain ⟨x1, hx1, HBx1, HC1⟩ := named_al u1 #[.int .u8 0, .string ⟨#[]⟩, .bool false, .bool false, .int .u64 0] 25
      have HBa1 := Aside0.mk (below_then HBu1.out HBu1.out.size HBx1.out)
      obtain ⟨p1, hp1⟩ : ∃ p, u1.heap.size = p := ⟨_, rfl⟩
      have HPw1 := Aside0.mk (show w.heap.size ≤ p1 by rw [← hp1]; exact HBu1.out.size)
      have HPP0_1 := Aside0.mk (show p0 < p1 by rw [← hp1]; exact pw_lt HR0.out)
      have n_ := Aside0.mk ((HBx1.out.block p0 (pw_lt HR0.out)).trans HR0.out)
      clear HR0
      have HR0 := n_
      clear n_
      rw [hp1] at HC1
      obtain ⟨a1_0, a1_1, a1_2, a1_3, a1_4, g1_0, g1_1, g1_2, g1_3, g1_4⟩ := cells5 HC1.out
      have hsz2 : ¬ (9223372036854775807 < (⟨#[37, 88, 126]⟩ : ByteArray).size + s.size) := by have := HS.out; show ¬ (9223372036854775807 < 3 + s.size); omega
      go_wp2_with fail
      have HBs1 := Aside0.mk (below5 HBa1.out HPw1.out (.int .u8 5) (.string s) (.bool false) (.bool false) (.int .u64 0))
      have HR1 := Aside0.mk (set5r HC1.out (.int .u8 5) (.string s) (.bool false) (.bool false) (.int .u64 0))
      have n_ := Aside0.mk ((off5r _ p1 (.int .u8 5) (.string s) (.bool false) (.bool false) (.int .u64 0) p0 (by have := HPP0_1.out; omega)).trans HR0.out)
      clear HR0
      have HR0 := n_
      clear n_
      clear a1_0 a1_1 a1_2 a1_3 a1_4 g1_0 g1_1 g1_2 g1_3 g1_4
      refine (parse_mark ⟨#[37, 88, 126]⟩ s (by decide) HS.out 0 ⟨#[]⟩ false false 0 false (by rw [rb_X]; rfl) _ (HL.out.below HBs1.out)).mono ?_
      rintro e u2 ⟨rfl, hb⟩
      have HBu2 := Aside0.mk (below_then HBs1.out HBs1.out.size hb)
      have n_ := Aside0.mk ((hb.block p0 (pw_lt HR0.out)).trans HR0.out)
      clear HR0
      have HR0 := n_
      clear n_
      have n_ := Aside0.mk ((hb.block p1 (pw_lt HR1.out)).trans HR1.out)
      clear HR1
      have HR1 := n_
      clear n_
      clear hb hsz2
      obtain ⟨x2, hx2, HBx2, HC2⟩ := named_al u2 #[.int .u8 0, .string ⟨#[]⟩, .bool false, .bool false, .int .u64 0] 25
      have HBa2 := Aside0.mk (below_then HBu2.out HBu2.out.size HBx2.out)
      obtain ⟨p2, hp2⟩ : ∃ p, u2.heap.size = p := ⟨_, rfl⟩
      have HPw2 := Aside0.mk (show w.heap.size ≤ p2 by rw [← hp2]; exact HBu2.out.size)
      have HPP0_2 := Aside0.mk (show p0 < p2 by rw [← hp2]; exact pw_lt HR0.out)
      have n_ := Aside0.mk ((HBx2.out.block p0 (pw_lt HR0.out)).trans HR0.out)
      clear HR0
      have HR0 := n_
      clear n_
      have HPP1_2 := Aside0.mk (show p1 < p2 by rw [← hp2]; exact pw_lt HR1.out)
      have n_ := Aside0.mk ((HBx2.out.block p1 (pw_lt HR1.out)).trans HR1.out)
      clear HR1
      have HR1 := n_
      clear n_
      rw [hp2] at HC2
      obtain ⟨a2_0, a2_1, a2_2, a2_3, a2_4, g2_0, g2_1, g2_2, g2_3, g2_4⟩ := cells5 HC2.out
      obtain ⟨c0_0, c0_1, c0_2, c0_3, c0_4, d0_0, d0_1, d0_2, d0_3, d0_4⟩ := cells5 HR0.out
      have e0 : ¬ (p0 = p2) := by have := HPP0_2.out; omega
      have e0b : ¬ (p2 = p0) := by have := HPP0_2.out; omega
      obtain ⟨c1_0, c1_1, c1_2, c1_3, c1_4, d1_0, d1_1, d1_2, d1_3, d1_4⟩ := cells5 HR1.out
      have e1 : ¬ (p1 = p2) := by have := HPP1_2.out; omega
      have e1b : ¬ (p2 = p1) := by have := HPP1_2.out; omega
      go_wp2
      go_ret
      exact ⟨rfl, below5 HBa2.out HPw2.out _ _ _ _ _⟩
theorem patterns_walk (s : ByteArray) (w : World) (hLd : Ld w) : Calls Tryd.prog 5 #[.string s] w fun e w' => e = .returned (.bool true) ∧ Below w.heap.size w w' := by
  by_cases h : 60 < s.size
  · have h60 : (s.extract 0 60).size ≤ 60 := by rw [← size_data, Lib.extract_data]; simp; omega
    cases hW : wordB (s.extract 0 60) with
    | true => exact patterns_C s _ h rfl h60 hW w hLd
    | false => exact patterns_D s _ h rfl h60 hW w hLd
  · cases hW : wordB s with
    | true => exact patterns_A s (by omega) hW w hLd
    | false => exact patterns_B s (by omega) hW w hLd
theorem RulePatterns_row (w : World) (a0 : ByteArray) (y0 : a0.size ≤ maxLen) (z0 : a0.size ≤ 140737488351232) (hL : laidMetH Tryd.prog theList w) (hS : w.ShapedOpen Tryd.prog) :
    Calls Tryd.prog 5 #[.string a0] w fun e w' => e = .returned (.bool true) ∧ Below w.heap.size w w' := patterns_walk a0 w (Ld.of_laid hL hS)
end Go.Proofs.YtencimfeipglaaaDoor.X
