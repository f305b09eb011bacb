/- FrameBack: its walk. -/
import Derived.Test.YtmbfapgamcbajaaDoorPBack
import Derived.Deep.RegionLaw
import Derived.IntWalk
import Derived.Test.YtmbfapgamcbajaaDoorWLast
set_option linter.unusedVariables false
set_option linter.unusedSimpArgs false
namespace Go.Proofs.YtmbfapgamcbajaaDoor.X
open Go.RowKit Go.Proofs.YtmbfapgamcbajaaDoorW.PrintWords Go.Proofs.YtmbfapgamcbajaaDoorW.PrintLast

theorem putU_len {x : List ByteArray} (hx : FitR x) : 0 < (putU x).length ∧ (putU x).length ≤ 100000 := by
  have h1 := flat_len x 1020 (fun v hv => bulk_len v (by have := hx.2.2 v hv; omega))
  have h2 := itoaN_len x.length (by have := hx.2.1; omega)
  have h3 := hx.2.1
  simp only [putU, List.length_append, lineP_len]
  omega

theorem feed_q (w0 : World) (g : Nat) (A : Option Addr) (b : List Int) (c : Nat) (s : List Int) (w : World) (hg : w0.heap.size ≤ g) (hB : Below w0.heap.size w0 w) (hR : RdAt w w0.heap.size g s false) (hb : BC w A b) (m : Nat) (hm : b.length = m) (hc : m ≤ c) (hl : s.length + m ≤ 1000000) :
    Calls Tryd.prog 18 #[.pointer (some ⟨g, 0, none⟩), .slice A m c] w fun e w' => e = .returned (.tuple #[]) ∧ Aside0 (RdAt w' w0.heap.size g (s ++ b) false) ∧ Aside0 (Below w0.heap.size w0 w') := by
  subst hm
  refine (feed_any w0 g A b c s false w hg hB hR hb hc hl).mono ?_
  rintro e w' ⟨rfl, h1, h2⟩
  exact ⟨rfl, ⟨h1⟩, ⟨h2⟩⟩
theorem reads_three (w0 : World) (hLd : Ld w0) (g : Nat) (s : List Int) (w : World) (hg : w0.heap.size ≤ g) (hB : Below w0.heap.size w0 w) (hR : RdAt w w0.heap.size g s false) (hl : s.length ≤ 1000000) (x y : List ByteArray) (hx : FitR x) (hy : FitR y) (hs : U s = putU x ++ putU y) :
    Calls Tryd.prog 19 #[.pointer (some ⟨g, 0, none⟩), .int .i64 3] w fun e w' => ∃ (A : Option Addr) (c : Nat), e = .returned (.tuple #[.slice A 2 c, .int .i64 0]) ∧ Aside0 (2 ≤ c) ∧ Aside0 (Kd.C kReq w' A 2 [x, y]) ∧ Aside0 (RdAt w' w0.heap.size g [] false) ∧ Aside0 (Below w0.heap.size w0 w') := by
  refine (reads_any w0 hLd g s 3 w hg hB hR hl (by omega) [x, y] [] 0 false (by rw [hs]; exact reads_back x y hx hy)).mono ?_
  rintro e w' ⟨v, rfl, hRv, ⟨s', hs', _, hR'⟩, hB'⟩
  obtain ⟨A, c, rfl, hc, hC⟩ := Kd.R_reads hRv
  have h0 : s' = [] := by
    have h := congrArg List.length hs'
    rw [U_len] at h
    exact List.eq_nil_of_length_eq_zero h
  subst h0
  exact ⟨A, c, rfl, ⟨hc⟩, ⟨hC⟩, ⟨hR'⟩, ⟨hB'⟩⟩
theorem same_two (w : World) (A B : Option Addr) (c d : Nat) (x y : List ByteArray) (hx : FitR x) (hy : FitR y) (hA : Kd.C kReq w A 2 [x, y]) (hc : 2 ≤ c) (hB : Kd.C kReq w B 2 [x, y]) (hd : 2 ≤ d) :
    Calls Tryd.prog 21 #[.slice A 2 c, .slice B 2 d] w fun e w' => e = .returned (.bool true) ∧ Drawn0 w w' :=
  tipstafflaw06_same.calls _ A c [x, y] B d [x, y] true w hA hc hB hd (same_f [x, y] (fun z hz => by
    rcases List.mem_cons.1 hz with rfl | hz
    · have := hx.2.1; omega
    · rw [List.mem_singleton.1 hz]; have := hy.2.1; omega) (by simp))
theorem rd_drewN {w : World} {base g : Nat} {s : List Int} {bad : Bool} (h : RdAt w base g s bad) (n : Nat) : RdAt (w.drewN n) base g s bad := by
  obtain ⟨v, h1, h2⟩ := h
  exact ⟨v, h1, Kd.R_step h2 (fun _ _ _ => rfl)⟩
theorem left_zero (base g : Nat) (bad : Bool) (w : World) (hR : RdAt w base g [] bad) :
    Calls Tryd.prog 22 #[.pointer (some ⟨g, 0, none⟩)] w fun e w' => e = .returned (.int .i64 0) ∧ w' = w := left_any base g [] bad w hR
theorem lit_q (w : World) (x y : List ByteArray) (A B : Option Addr) (c d : Nat) (m n : Nat) (hm : m = x.length) (hn : n = y.length) (hA : Kd.C Kd.string w A x.length x) (hc : m ≤ c) (hB : Kd.C Kd.string w B y.length y) (hd : n ≤ d) :
    Kd.C kReq (w.alloc (.cells #[.slice A m c, .slice B n d] 25)) (some ⟨w.heap.size, 0, none⟩) 2 [x, y] := by
  subst hm hn
  exact lit_rows w x y A B c d (0, 0) hA hc hB hd

set_option maxHeartbeats 8000000 in
set_option maxRecDepth 100000 in
theorem FrameBack_walk (A1 : Option Addr) (a : List ByteArray) (c1 : Nat) (A2 : Option Addr) (b : List ByteArray) (c2 : Nat) (at_ : Int) (w : World) (hLd : Ld w) (h1 : Kd.C Kd.string w A1 a.length a) (hc1 : a.length ≤ c1) (h2 : Kd.C Kd.string w A2 b.length b) (hc2 : b.length ≤ c2) (ha0 : 0 ≤ at_) (ha1 : at_ ≤ 65535) :
    Calls Tryd.prog 8 #[.slice A1 a.length c1, .slice A2 b.length c2, .int .u16 at_] w fun e w' => e = .returned (.bool true) ∧ Below w.heap.size w w' := by
  have HL := Aside0.mk hLd
  have H1 := Aside0.mk h1
  have H2 := Aside0.mk h2
  clear hLd h1 h2
  go_enter Tryd.func8, Tryd.ntmps8
  go_wp2_with (go_at_call 9; refine (shown_true _ HL.out).mono ?_; rintro e w1 ⟨rfl, hb⟩; have HW1 := Aside0.mk hb; clear hb)
  refine (fit_any A1 a c1 _ (Kd.C_below H1.out HW1.out) hc1).mono ?_
  rintro e w2 ⟨A3, m3, c3, x, rfl, hm3, hc3, hF3, hC3, hB3⟩
  have HW2 := Aside0.mk (below_then HW1.out HW1.out.size hB3.out)
  go_wp2_with fail
  refine (fit_any A2 b c2 _ (Kd.C_below H2.out HW2.out) hc2).mono ?_
  rintro e w3 ⟨A4, m4, c4, y, rfl, hm4, hc4, hF4, hC4, hB4⟩
  have HW3 := Aside0.mk (below_then HW2.out HW2.out.size hB4.out)
  have HC33 := Aside0.mk (Kd.C_below hC3.out hB4.out)
  obtain ⟨p, hp⟩ : ∃ p, NB (putU x) = p := ⟨_, rfl⟩
  obtain ⟨lp, hlp⟩ : ∃ lp, (putU x).length = lp := ⟨_, rfl⟩
  have hpl : p.length = lp := by rw [← hp, NB_len, hlp]
  obtain ⟨q, hq⟩ : ∃ q, NB (putU y) = q := ⟨_, rfl⟩
  obtain ⟨lq, hlq⟩ : ∃ lq, (putU y).length = lq := ⟨_, rfl⟩
  have hql : q.length = lq := by rw [← hq, NB_len, hlq]
  have hlp1 := putU_len hF3.out
  have hlq1 := putU_len hF4.out
  rw [hlp] at hlp1
  rw [hlq] at hlq1
  have HP := Aside0.mk hp
  have HLP := Aside0.mk hlp
  have HPL := Aside0.mk hpl
  have HQ := Aside0.mk hq
  have HLQ := Aside0.mk hlq
  have HQL := Aside0.mk hql
  clear hp hlp hpl hq hlq hql
  go_wp2_with fail
  refine (put_q w A3 x c3 _ HL.out HW3.out m3 hm3.out HC33.out (by have h1 := hm3.out; have h2 := hc3.out; omega) (by have := hF3.out.2.1; omega) (fun z hz => by have := hF3.out.2.2 z hz; omega) lp HLP.out p HP.out).mono ?_
  rintro e w4 ⟨A5, c5, rfl, hc5, hC5, HW4, hB5⟩
  have HC34 := Aside0.mk (Kd.C_below HC33.out hB5.out)
  have HC44 := Aside0.mk (Kd.C_below hC4.out hB5.out)
  go_wp2_with fail
  refine (put_q w A4 y c4 _ HL.out HW4.out m4 hm4.out HC44.out (by have h1 := hm4.out; have h2 := hc4.out; omega) (by have := hF4.out.2.1; omega) (fun z hz => by have := hF4.out.2.2 z hz; omega) lq HLQ.out q HQ.out).mono ?_
  rintro e w5 ⟨A6, c6, rfl, hc6, hC6, HW5, hB6⟩
  have HC35 := Aside0.mk (Kd.C_below HC34.out hB6.out)
  have HC45 := Aside0.mk (Kd.C_below HC44.out hB6.out)
  have HC55 := Aside0.mk (Kd.C_below hC5.out hB6.out)
  go_wp2_with fail
  refine (new_any w5).mono ?_
  rintro e w6 ⟨rfl, hw6⟩
  have HR6 := Aside0.mk (rd_new w5)
  rw [← hw6] at HR6
  have HB6' := Aside0.mk (show Below w5.heap.size w5 w6 by rw [hw6]; exact below_alloc (Below.refl _ _) _)
  obtain ⟨g, hg⟩ : ∃ g, w5.heap.size = g := ⟨_, rfl⟩
  have HG := Aside0.mk hg
  have hHR6 := HR6.out
  rw [hg] at hHR6 ⊢
  rw [← hg] at hHR6
  clear hw6 hg
  have hpos : (0 : Int) < lp := by omega
  have hz : ((lp : Int) == 0) = false := by rw [beq_eq_false_iff_ne]; omega
  go_wp2_with fail
  refine (feed_q w5 g A5 p c5 [] w6 (Nat.le_of_eq HG.out) HB6'.out (HG.out ▸ HR6.out) (Kd.C_below HC55.out HB6'.out) lp HPL.out hc5.out (by simp; omega)).mono ?_
  rintro e w7 ⟨rfl, hR7, hB7⟩
  go_wp2_with fail
  refine (feed_q w5 g A6 q c6 ([] ++ p) w7 (Nat.le_of_eq HG.out) hB7.out hR7.out (Kd.C_below hC6.out hB7.out) lq HQL.out hc6.out (by have := HPL.out; simp; omega)).mono ?_
  rintro e w8 ⟨rfl, hR8, hB8⟩
  go_wp2_with fail
  refine (reads_three w5 (HL.out.below HW5.out) g ([] ++ p ++ q) w8 (Nat.le_of_eq HG.out) hB8.out hR8.out (by have h1 := HPL.out; have h2 := HQL.out; simp; omega) x y hF3.out hF4.out (by rw [List.nil_append, U_app, ← HP.out, ← HQ.out, U_NB, U_NB])).mono ?_
  rintro e w9 ⟨A9, c9, rfl, hc9, hC9, hR9, hB9⟩
  have HW9 := Aside0.mk (below_then HW5.out HW5.out.size hB9.out)
  have HLT := Aside0.mk (lit_q w9 x y A3 A4 c3 c4 m3 m4 hm3.out hm4.out (Kd.C_below HC35.out hB9.out) hc3.out (Kd.C_below HC45.out hB9.out) hc4.out)
  have HC99 := Aside0.mk (Kd.C_below hC9.out (below_alloc (Below.refl w9.heap.size w9) (.cells #[.slice A3 m3 c3, .slice A4 m4 c4] 25)))
  go_wp2_with fail
  refine (same_two _ A9 _ c9 2 x y hF3.out hF4.out HC99.out hc9.out HLT.out (Nat.le_refl _)).mono ?_
  rintro e w10 ⟨rfl, hd10⟩
  have HB10 := Aside0.mk (below_then (below_then hB9.out hB9.out.size (below_alloc (Below.refl w9.heap.size w9) (.cells #[.slice A3 m3 c3, .slice A4 m4 c4] 25))) (below_then hB9.out hB9.out.size (below_alloc (Below.refl w9.heap.size w9) (.cells #[.slice A3 m3 c3, .slice A4 m4 c4] 25))).size hd10.below)
  have HR10 := Aside0.mk ((hR9.out.below (below_alloc (Below.refl w9.heap.size w9) (.cells #[.slice A3 m3 c3, .slice A4 m4 c4] 25))).below hd10.below)
  have HW10 := Aside0.mk (below_then HW5.out HW5.out.size HB10.out)
  clear hd10
  obtain ⟨n0, hn0⟩ : ∃ n0 : Nat, at_ % (lp : Int) = n0 := ⟨(at_ % lp).toNat, by have := Int.emod_nonneg at_ (show (lp : Int) ≠ 0 by omega); omega⟩
  have hn0l : n0 < lp := by have := Int.emod_lt_of_pos at_ hpos; omega
  obtain ⟨cut0, bc0, hcc0⟩ := cut_take A5 c5 p (n0 : Int) (by omega) (by have := HPL.out; omega) (by rw [HPL.out]; exact hc5.out)
  simp only [Int.toNat_natCast] at cut0 bc0 hcc0
  obtain ⟨p0, hp0⟩ : ∃ p0, p0 = p.take n0 := ⟨_, rfl⟩
  rw [← hp0] at cut0 bc0 hcc0
  have hp0l : p0.length = n0 := by rw [hp0, List.length_take, HPL.out]; omega
  rw [HPL.out, hp0l] at cut0
  rw [hp0l] at hcc0
  have hU0 : nextB p0 = ([], 0, 0) := by rw [nextB_U, hp0, U_take, ← HP.out, U_NB]; exact cut_back x hF3.out n0 (by rw [HLP.out]; exact hn0l)
  have BC0 := Aside0.mk (bc0 _ (Kd.C_below (Kd.C_below HC55.out HB6'.out) (Below.refl _ _)))
  have BC10 := Aside0.mk (bc0 _ (Kd.C_below HC55.out HB10.out))
  have HU0 := Aside0.mk hU0
  have HP0L := Aside0.mk hp0l
  clear bc0 hp0 hp0l hU0
  have htm : at_.tmod (lp : Int) = n0 := by rw [Int.tmod_eq_emod_of_nonneg ha0, hn0]
  go_wp2_with fail
  refine (next_q w A5 p0 c5 _ HL.out HW10.out n0 HP0L.out BC10.out hcc0 (by omega) [] 0 0 HU0.out 0 rfl).mono ?_
  rintro e w11 ⟨A11, c11, rfl, k1, k2, k3, k4⟩
  have HR11 := Aside0.mk (HR10.out.below k4.out)
  go_wp2_with fail
  refine (left_zero _ g false w11 HR11.out).mono ?_
  rintro e w12 ⟨rfl, rfl⟩
  go_wp2
  go_ret
  exact ⟨rfl, k3.out⟩
end Go.Proofs.YtmbfapgamcbajaaDoor.X
