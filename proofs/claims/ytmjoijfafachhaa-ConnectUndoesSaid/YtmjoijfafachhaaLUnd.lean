/- The walk of the law ConnectUndoes. -/
import Derived.Test.YtmjoijfafachhaaLUndA
import Derived.Test.YtmjoijfafachhaaUndP
import Derived.Test.YtmjoijfafachhaaSumD
import Derived.Test.YtmjoijfafachhaaBadW
import Derived.Test.YtmjoijfafachhaaCtnW
import Derived.Test.YtmjoijfafachhaaEqlW
import Derived.Test.YtmjoijfafachhaaGreatW
import Derived.Test.YtmjoijfafachhaaAwkW
import Derived.Deep.RegionHeld3
namespace Go.Proofs.Ytmjoijfafachhaa
open Go Go.RowKit
theorem sum_wraps {a b Y : Nat} (h : a + b ≤ 1000000) (hY : Y = a + b) : wrap64 ((a : Int) + (b : Int)) = (Y : Int) ∧ IntKind.i64.wrap ((a : Int) + (b : Int)) = (Y : Int) := by
  subst hY
  constructor
  · rw [wrap_mid (by omega) (by omega)]; omega
  · rw [wrapi_mid (by omega) (by omega)]; omega
set_option maxRecDepth 100000 in
set_option maxHeartbeats 2000000 in
theorem lund_yes (Sa Ma : List Int) (La : Int) (aSa aMa : Option Addr) (cSa cMa : Nat) (x : Nat) (Sb Mb : List Int) (Lb : Int) (aSb aMb : Option Addr) (cSb cMb : Nat) (y : Nat) (w : World) (hga : greatB Sa Ma La = false) (hgb : greatB Sb Mb Lb = false) (hp : gN Sa Ma La = 1) (hq : gN Sb Mb Lb = 1) (hx : x < 4 * Sa.length) (hy : y < 4 * Sb.length) (hox : outB Sa x = true) (hoy : outB Sb y = true) (hSa : IntsAt w aSa Sa) (hMa : IntsAt w aMa Ma) (hSb : IntsAt w aSb Sb) (hMb : IntsAt w aMb Mb) :
    Calls Try.prog 6 #[.agg #[.slice aSa Sa.length cSa, .slice aMa Ma.length cMa, .int .i64 La], .int .i64 (x : Int), .agg #[.slice aSb Sb.length cSb, .slice aMb Mb.length cMb, .int .i64 Lb], .int .i64 (y : Int)] w fun e w' => e = .returned (.bool true) ∧ Below w.heap.size w w' := by
  obtain ⟨hga1, hga2⟩ := greatB_no hga
  obtain ⟨hgb1, hgb2⟩ := greatB_no hgb
  have HGa : Hid (∀ W', Calls Try.prog 13 #[.agg #[.slice aSa Sa.length cSa, .slice aMa Ma.length cMa, .int .i64 La]] W' fun e w' => e = .returned (.bool false) ∧ Below W'.heap.size W' w') := Lib.hid fun W' => by
    have g := great_any Sa Ma La aSa aMa cSa cMa W'
    rw [hga] at g; exact g
  have HGb : Hid (∀ W', Calls Try.prog 13 #[.agg #[.slice aSb Sb.length cSb, .slice aMb Mb.length cMb, .int .i64 Lb]] W' fun e w' => e = .returned (.bool false) ∧ Below W'.heap.size W' w') := Lib.hid fun W' => by
    have g := great_any Sb Mb Lb aSb aMb cSb cMb W'
    rw [hgb] at g; exact g
  have HGra : Hid (∀ W', Below w.heap.size w W' → Calls Try.prog 28 #[.agg #[.slice aSa Sa.length cSa, .slice aMa Ma.length cMa, .int .i64 La]] W' fun e w' => ∃ A C, e = .returned (.slice A (gN Sa Ma La) C) ∧ Below W'.heap.size W' w') := Lib.hid fun W' h => graph_cnt Sa Ma La aSa aMa cSa cMa W' (by omega) (by omega) (hSa.later h) (hMa.later h)
  have hgla := gN_le Sa Ma La
  have HGrb : Hid (∀ W', Below w.heap.size w W' → Calls Try.prog 28 #[.agg #[.slice aSb Sb.length cSb, .slice aMb Mb.length cMb, .int .i64 Lb]] W' fun e w' => ∃ A C, e = .returned (.slice A (gN Sb Mb Lb) C) ∧ Below W'.heap.size W' w') := Lib.hid fun W' h => graph_cnt Sb Mb Lb aSb aMb cSb cMb W' (by omega) (by omega) (hSb.later h) (hMb.later h)
  have hglb := gN_le Sb Mb Lb
  obtain ⟨hva', ga⟩ := gN_one hp
  obtain ⟨hvb', gb⟩ := gN_one hq
  have hva := vld_L0 hva'
  have hvb := vld_L0 hvb'
  have hn : Sa.length + Sb.length ≤ 64 := by omega
  have hma := (vldB_shape hva).len
  have hmb := (vldB_shape hvb).len
  obtain ⟨hgv, ho1, ho2, hr1, hr2, hfA, hfB⟩ := undo_good hva hvb hn ga gb hx hy hox hoy
  have hVl : (crossL (uniM Ma Mb) x (Ma.length + y)).length = Ma.length + Mb.length := by rw [crossL_len, uniM_len]
  have hTl : (Sa ++ Sb).length = Sa.length + Sb.length := List.length_append
  have HSum : Hid (∀ W', Below w.heap.size w W' → Calls Try.prog 32 #[.agg #[.slice aSa Sa.length cSa, .slice aMa Ma.length cMa, .int .i64 0], .int .i64 (x : Int), .agg #[.slice aSb Sb.length cSb, .slice aMb Mb.length cMb, .int .i64 0], .int .i64 (y : Int)] W' fun e w' => ∃ a b c d, e = .returned (.tuple #[.agg #[.slice a (Sa.length + Sb.length) c, .slice b (Ma.length + Mb.length) d, .int .i64 0], .int .i64 0]) ∧ Own w' W'.heap.size 3 a c (ints (Sa ++ Sb)) ∧ Own w' W'.heap.size 3 b d (ints (crossL (uniM Ma Mb) x (Ma.length + y))) ∧ Below W'.heap.size W' w') := Lib.hid fun W' h => sum_yes Sa Ma Sb Mb 0 0 aSa aMa aSb aMb cSa cMa cSb cMb x y W' hva hvb hx hy hox hoy hn (by omega) (hSa.later h) (hMa.later h) (hSb.later h) (hMb.later h)
  have hXl : x < 4 * (Sa ++ Sb).length := by omega
  have hYl : Ma.length + y < 4 * (Sa ++ Sb).length := by omega
  have HFa : Hid (∀ (a0 b0 : Option Addr) (c0 d0 : Nat) W', IntsAt W' a0 (Sa ++ Sb) → IntsAt W' b0 (crossL (uniM Ma Mb) x (Ma.length + y)) → Calls Try.prog 21 #[.agg #[.slice a0 (Sa.length + Sb.length) c0, .slice b0 (Ma.length + Mb.length) d0, .int .i64 0], .int .i64 (x : Int), .int .i64 ((Ma.length + y : Nat) : Int)] W' fun e w' => ∃ a b c d a' b' c' d', e = .returned (.tuple #[.agg #[.slice a Sa.length c, .slice b Ma.length d, .int .i64 0], .agg #[.slice a' Sb.length c', .slice b' Mb.length d', .int .i64 0], .int .i64 0]) ∧ Own w' W'.heap.size 3 a c (ints Sa) ∧ Own w' W'.heap.size 3 b d (ints Ma) ∧ Own w' W'.heap.size 3 a' c' (ints Sb) ∧ Own w' W'.heap.size 3 b' d' (ints Mb) ∧ Below W'.heap.size W' w') := Lib.hid fun a0 b0 c0 d0 W' h1 h2 => by
    have g := factor_yes (Sa ++ Sb) (crossL (uniM Ma Mb) x (Ma.length + y)) 0 a0 b0 c0 d0 x (Ma.length + y) W' hgv hXl hYl ho1 ho2 (by omega) hr1 hr2 h1 h2
    rw [hfA, hfB, hTl, hVl] at g; exact g
  have HEa : Hid (∀ (a b a' b' : Option Addr) (c d c' d' : Nat) W', IntsAt W' a Sa → IntsAt W' b Ma → IntsAt W' a' Sa → IntsAt W' b' Ma → Calls Try.prog 20 #[.agg #[.slice a Sa.length c, .slice b Ma.length d, .int .i64 0], .agg #[.slice a' Sa.length c', .slice b' Ma.length d', .int .i64 0]] W' fun e w' => e = .returned (.bool true) ∧ Below W'.heap.size W' w') := Lib.hid fun a b a' b' c d c' d' W' h1 h2 h3 h4 => by
    have g := equalD_any Sa Ma Sa Ma 0 0 a b a' b' c d c' d' W' (by omega) (by omega) h1 h2 h3 h4
    rw [show eqD Sa Ma 0 Sa Ma 0 = true by unfold eqD; simp] at g; exact g
  have HEb : Hid (∀ (a b a' b' : Option Addr) (c d c' d' : Nat) W', IntsAt W' a Sb → IntsAt W' b Mb → IntsAt W' a' Sb → IntsAt W' b' Mb → Calls Try.prog 20 #[.agg #[.slice a Sb.length c, .slice b Mb.length d, .int .i64 0], .agg #[.slice a' Sb.length c', .slice b' Mb.length d', .int .i64 0]] W' fun e w' => e = .returned (.bool true) ∧ Below W'.heap.size W' w') := Lib.hid fun a b a' b' c d c' d' W' h1 h2 h3 h4 => by
    have g := equalD_any Sb Mb Sb Mb 0 0 a b a' b' c d c' d' W' (by omega) (by omega) h1 h2 h3 h4
    rw [show eqD Sb Mb 0 Sb Mb 0 = true by unfold eqD; simp] at g; exact g
  have HCu : Hid (∀ (a b : Option Addr) (c d : Nat) W', IntsAt W' a (Sa ++ Sb) → IntsAt W' b (crossL (uniM Ma Mb) x (Ma.length + y)) → Calls Try.prog 27 #[.agg #[.slice a (Sa.length + Sb.length) c, .slice b (Ma.length + Mb.length) d, .int .i64 0]] W' fun e w' => ∃ A C, e = .returned (.slice A (cutsL (Sa ++ Sb) (crossL (uniM Ma Mb) x (Ma.length + y))).length C) ∧ Own w' W'.heap.size 45 A (C * 2) (prs (cutsL (Sa ++ Sb) (crossL (uniM Ma Mb) x (Ma.length + y)))) ∧ Below W'.heap.size W' w') := Lib.hid fun a b c d W' h1 h2 => by
    have g := cuts_yes (Sa ++ Sb) (crossL (uniM Ma Mb) x (Ma.length + y)) 0 a b c d W' hgv h1 h2
    rw [hTl, hVl] at g
    exact g.mono fun e w' ⟨A, C, he, _, ho, hb⟩ => ⟨A, C, he, ho, hb⟩
  have hKl : (cutsL (Sa ++ Sb) (crossL (uniM Ma Mb) x (Ma.length + y))).length ≤ 65536 := by
    have := cutTo_len (Sa ++ Sb) (leftL (crossL (uniM Ma Mb) x (Ma.length + y)) (Sa ++ Sb).length) (crossL (uniM Ma Mb) x (Ma.length + y)) (4 * (Sa ++ Sb).length) (4 * (Sa ++ Sb).length)
    have h2 : 4 * (Sa ++ Sb).length * (4 * (Sa ++ Sb).length) ≤ 256 * 256 := Nat.mul_le_mul (by omega) (by omega)
    unfold cutsL; omega
  have hin : decide ((x, Ma.length + y) ∈ cutsL (Sa ++ Sb) (crossL (uniM Ma Mb) x (Ma.length + y))) = true := decide_eq_true ((mem_cuts hgv).2 ⟨(by show x < Ma.length + y; omega), hYl, ho1, ho2, hr1, hr2⟩)
  have HCt : Hid (∀ (A : Option Addr) (C : Nat) W', VAt W' A (prs (cutsL (Sa ++ Sb) (crossL (uniM Ma Mb) x (Ma.length + y)))) → Calls Try.prog 30 #[.slice A (cutsL (Sa ++ Sb) (crossL (uniM Ma Mb) x (Ma.length + y))).length C, .agg #[.int .i64 (x : Int), .int .i64 ((Ma.length + y : Nat) : Int)]] W' fun e w' => e = .returned (.bool true) ∧ Below W'.heap.size W' w') := Lib.hid fun A C W' h => by
    have g := pcontains_any _ A C x (Ma.length + y) W' (by omega) h
    rw [hin] at g; exact g
  have HSM : Hid (∀ W', Below w.heap.size w W' → (IntsAt W' aSa Sa ∧ IntsAt W' aMa Ma) ∧ (IntsAt W' aSb Sb ∧ IntsAt W' aMb Mb)) := Lib.hid fun W' h => ⟨⟨hSa.later h, hMa.later h⟩, ⟨hSb.later h, hMb.later h⟩⟩
  have t1 : decide ((x : Int) < 0) = false := decide_eq_false (by omega)
  have t2 : decide ((y : Int) < 0) = false := decide_eq_false (by omega)
  obtain ⟨Y, hY⟩ : ∃ Y, Y = Ma.length + y := ⟨_, rfl⟩
  obtain ⟨wv, wx⟩ := sum_wraps (show Ma.length + y ≤ 1000000 by omega) hY
  have H0 := Lib.hid (((HH.start w).alloc #[.slice aSa Sa.length cSa, .slice aMa Ma.length cMa, .int .i64 La] 24 rfl rfl).alloc #[.slice aSb Sb.length cSb, .slice aMb Mb.length cMb, .int .i64 Lb] 24 (b := w.heap.size + 1) (by simp) rfl)
  rw [hp] at HGra
  rw [hq] at HGrb
  clear hga hgb hp hq hva hvb hva' hvb' ga gb hx hy hox hoy hSa hMa hSb hMb hgla hglb hgv ho1 ho2 hr1 hr2 hfA hfB hVl hTl hXl hYl hKl hin hma hmb hn
  rw [← hY] at HSum HFa HCu HCt
  clear hY
  generalize crossL (uniM Ma Mb) x Y = V at *
  generalize Sa ++ Sb = T at *
  generalize hPe : prs (cutsL T V) = P at *
  clear hPe
  generalize (cutsL T V).length = kk at *
  generalize Sa.length = na at *
  generalize Sb.length = nb at *
  generalize Ma.length = ma at *
  generalize Mb.length = mb at *
  go_enter Try.func6, Try.ntmps6
  go_wp2_with fail
  refine (awake_any _).mono ?_
  rintro e w1 ⟨rfl, hb⟩
  have H1 := Lib.hid (H0.out.call hb)
  clear hb H0 
  have k00 := H1.out.cell (k := 0) (i := 0) rfl rfl
  have k01 := H1.out.cell (k := 0) (i := 1) rfl rfl
  have k02 := H1.out.cell (k := 0) (i := 2) rfl rfl
  have k10 := H1.out.cell (k := 1) (i := 0) rfl rfl
  have k11 := H1.out.cell (k := 1) (i := 1) rfl rfl
  have k12 := H1.out.cell (k := 1) (i := 2) rfl rfl
  go_wp2_with fail
  clear k00 k01 k02 k10 k11 k12
  refine (HGa.out _).mono ?_
  rintro e w2 ⟨rfl, hb⟩
  have H2 := Lib.hid (H1.out.call hb)
  clear hb H1 
  have k00 := H2.out.cell (k := 0) (i := 0) rfl rfl
  have k01 := H2.out.cell (k := 0) (i := 1) rfl rfl
  have k02 := H2.out.cell (k := 0) (i := 2) rfl rfl
  have k10 := H2.out.cell (k := 1) (i := 0) rfl rfl
  have k11 := H2.out.cell (k := 1) (i := 1) rfl rfl
  have k12 := H2.out.cell (k := 1) (i := 2) rfl rfl
  go_wp2_with fail
  clear k00 k01 k02 k10 k11 k12
  refine (HGb.out _).mono ?_
  rintro e w3 ⟨rfl, hb⟩
  have H3 := Lib.hid (H2.out.call hb)
  clear hb H2 
  have k00 := H3.out.cell (k := 0) (i := 0) rfl rfl
  have k01 := H3.out.cell (k := 0) (i := 1) rfl rfl
  have k02 := H3.out.cell (k := 0) (i := 2) rfl rfl
  have k10 := H3.out.cell (k := 1) (i := 0) rfl rfl
  have k11 := H3.out.cell (k := 1) (i := 1) rfl rfl
  have k12 := H3.out.cell (k := 1) (i := 2) rfl rfl
  go_wp2_with fail
  clear k00 k01 k02 k10 k11 k12
  refine (HGra.out _ H3.out.below).mono ?_
  rintro e w4 ⟨A4, C4, rfl, hb⟩
  have H4 := Lib.hid (H3.out.call hb)
  clear hb H3 
  have k00 := H4.out.cell (k := 0) (i := 0) rfl rfl
  have k01 := H4.out.cell (k := 0) (i := 1) rfl rfl
  have k02 := H4.out.cell (k := 0) (i := 2) rfl rfl
  have k10 := H4.out.cell (k := 1) (i := 0) rfl rfl
  have k11 := H4.out.cell (k := 1) (i := 1) rfl rfl
  have k12 := H4.out.cell (k := 1) (i := 2) rfl rfl
  go_wp2_with fail
  clear k00 k01 k02 k10 k11 k12
  refine (HGrb.out _ H4.out.below).mono ?_
  rintro e w5 ⟨A5, C5, rfl, hb⟩
  have H5 := Lib.hid (H4.out.call hb)
  clear hb H4 
  have f02 := H5.out.frozen (k := 0) rfl 2
  have f12 := H5.out.frozen (k := 1) rfl 2
  have k02 := H5.out.cell (k := 0) (i := 2) rfl rfl
  have k12 := H5.out.cell (k := 1) (i := 2) rfl rfl
  have H6 := Lib.hid ((H5.out.set (k := 0) rfl 2 (.int .i64 0)).set (k := 1) rfl 2 (.int .i64 0))
  go_upto_region 6 with fail
  generalize (w5.setCell ⟨w.heap.size, 2, none⟩ (.int .i64 0)).setCell ⟨w.heap.size + 1, 2, none⟩ (.int .i64 0) = w6 at *
  clear f02 f12 k02 k12 H5
  have k00 := H6.out.cell (k := 0) (i := 0) rfl rfl
  have k01 := H6.out.cell (k := 0) (i := 1) rfl rfl
  have k02 := H6.out.cell (k := 0) (i := 2) rfl rfl
  have k10 := H6.out.cell (k := 1) (i := 0) rfl rfl
  have k11 := H6.out.cell (k := 1) (i := 1) rfl rfl
  have k12 := H6.out.cell (k := 1) (i := 2) rfl rfl
  go_wp2_with fail
  clear k00 k01 k02 k10 k11 k12
  refine (HSum.out _ H6.out.below).mono ?_
  rintro e w7 ⟨a5, b5, c5, d5, rfl, ho1, ho2, hb⟩
  have H7 := Lib.hid ((H6.out.call hb).alloc #[.slice a5 (na + nb) c5, .slice b5 (ma + mb) d5, .int .i64 0] 24 (b := w7.heap.size) rfl rfl)
  have o1 := Lib.hid (ho1.alloc (.cells #[.slice a5 (na + nb) c5, .slice b5 (ma + mb) d5, .int .i64 0] 24)).ints
  have o2 := Lib.hid (ho2.alloc (.cells #[.slice a5 (na + nb) c5, .slice b5 (ma + mb) d5, .int .i64 0] 24)).ints
  clear ho1 ho2 hb H6 HSum
  go_upto_region 7 with fail
  generalize w7.alloc (.cells #[.slice a5 (na + nb) c5, .slice b5 (ma + mb) d5, .int .i64 0] 24) = v5 at *
  generalize w7.heap.size = q5 at *
  have k01 := H7.out.cell (k := 0) (i := 1) rfl rfl
  have k20 := H7.out.cell (k := 2) (i := 0) rfl rfl
  have k21 := H7.out.cell (k := 2) (i := 1) rfl rfl
  have k22 := H7.out.cell (k := 2) (i := 2) rfl rfl
  go_wp2_with fail
  clear k01 k20 k21 k22
  refine (HFa.out a5 b5 c5 d5 _ o1.out o2.out).mono ?_
  rintro e w8 ⟨a7, b7, c7, d7, a8, b8, c8, d8, rfl, ho1, ho2, ho3, ho4, hb⟩
  have H8 := Lib.hid (((H7.out.call hb).alloc #[.slice a7 na c7, .slice b7 ma d7, .int .i64 0] 24 (b := w8.heap.size) rfl rfl).alloc #[.slice a8 nb c8, .slice b8 mb d8, .int .i64 0] 24 (b := w8.heap.size + 1) (by simp) rfl)
  have hal : Below w8.heap.size w8 ((w8.alloc (.cells #[.slice a7 na c7, .slice b7 ma d7, .int .i64 0] 24)).alloc (.cells #[.slice a8 nb c8, .slice b8 mb d8, .int .i64 0] 24)) := ((Below.refl _ _).alloc (Nat.le_refl _) _).alloc (by simp) _
  have HI : Hid ((IntsAt ((w8.alloc (.cells #[.slice a7 na c7, .slice b7 ma d7, .int .i64 0] 24)).alloc (.cells #[.slice a8 nb c8, .slice b8 mb d8, .int .i64 0] 24)) a5 T ∧ IntsAt ((w8.alloc (.cells #[.slice a7 na c7, .slice b7 ma d7, .int .i64 0] 24)).alloc (.cells #[.slice a8 nb c8, .slice b8 mb d8, .int .i64 0] 24)) b5 V) ∧ (IntsAt ((w8.alloc (.cells #[.slice a7 na c7, .slice b7 ma d7, .int .i64 0] 24)).alloc (.cells #[.slice a8 nb c8, .slice b8 mb d8, .int .i64 0] 24)) a7 Sa ∧ IntsAt ((w8.alloc (.cells #[.slice a7 na c7, .slice b7 ma d7, .int .i64 0] 24)).alloc (.cells #[.slice a8 nb c8, .slice b8 mb d8, .int .i64 0] 24)) b7 Ma) ∧ (IntsAt ((w8.alloc (.cells #[.slice a7 na c7, .slice b7 ma d7, .int .i64 0] 24)).alloc (.cells #[.slice a8 nb c8, .slice b8 mb d8, .int .i64 0] 24)) a8 Sb ∧ IntsAt ((w8.alloc (.cells #[.slice a7 na c7, .slice b7 ma d7, .int .i64 0] 24)).alloc (.cells #[.slice a8 nb c8, .slice b8 mb d8, .int .i64 0] 24)) b8 Mb)) := Lib.hid ⟨⟨(o1.out.later hb).later hal, (o2.out.later hb).later hal⟩, ⟨ho1.ints.later hal, ho2.ints.later hal⟩, ⟨ho3.ints.later hal, ho4.ints.later hal⟩⟩
  clear ho1 ho2 ho3 ho4 hb H7 HFa o1 o2 hal
  go_upto_region 10 with fail
  generalize (w8.alloc (.cells #[.slice a7 na c7, .slice b7 ma d7, .int .i64 0] 24)).alloc (.cells #[.slice a8 nb c8, .slice b8 mb d8, .int .i64 0] 24) = v8 at *
  generalize w8.heap.size = q7 at *
  have O8 : Hid (∀ W', Below v8.heap.size v8 W' → (W'.cell? ⟨w.heap.size, 0, none⟩ = some (.slice aSa na cSa) ∧ W'.cell? ⟨w.heap.size, 1, none⟩ = some (.slice aMa ma cMa) ∧ W'.cell? ⟨w.heap.size, 2, none⟩ = some (.int .i64 0) ∧ W'.cell? ⟨w.heap.size + 1, 0, none⟩ = some (.slice aSb nb cSb) ∧ W'.cell? ⟨w.heap.size + 1, 1, none⟩ = some (.slice aMb mb cMb) ∧ W'.cell? ⟨w.heap.size + 1, 2, none⟩ = some (.int .i64 0) ∧ W'.cell? ⟨q5, 0, none⟩ = some (.slice a5 (na + nb) c5) ∧ W'.cell? ⟨q5, 1, none⟩ = some (.slice b5 (ma + mb) d5) ∧ W'.cell? ⟨q5, 2, none⟩ = some (.int .i64 0) ∧ W'.cell? ⟨q7, 0, none⟩ = some (.slice a7 na c7) ∧ W'.cell? ⟨q7, 1, none⟩ = some (.slice b7 ma d7) ∧ W'.cell? ⟨q7, 2, none⟩ = some (.int .i64 0) ∧ W'.cell? ⟨q7 + 1, 0, none⟩ = some (.slice a8 nb c8) ∧ W'.cell? ⟨q7 + 1, 1, none⟩ = some (.slice b8 mb d8) ∧ W'.cell? ⟨q7 + 1, 2, none⟩ = some (.int .i64 0)) ∧ ((IntsAt W' a5 T ∧ IntsAt W' b5 V) ∧ (IntsAt W' a7 Sa ∧ IntsAt W' b7 Ma) ∧ (IntsAt W' a8 Sb ∧ IntsAt W' b8 Mb)) ∧ Below w.heap.size w W') := Lib.hid fun W' h => by
    have H := H8.out.call h
    exact ⟨⟨H.cell (k := 0) (i := 0) rfl rfl, H.cell (k := 0) (i := 1) rfl rfl, H.cell (k := 0) (i := 2) rfl rfl, H.cell (k := 1) (i := 0) rfl rfl, H.cell (k := 1) (i := 1) rfl rfl, H.cell (k := 1) (i := 2) rfl rfl, H.cell (k := 2) (i := 0) rfl rfl, H.cell (k := 2) (i := 1) rfl rfl, H.cell (k := 2) (i := 2) rfl rfl, H.cell (k := 3) (i := 0) rfl rfl, H.cell (k := 3) (i := 1) rfl rfl, H.cell (k := 3) (i := 2) rfl rfl, H.cell (k := 4) (i := 0) rfl rfl, H.cell (k := 4) (i := 1) rfl rfl, H.cell (k := 4) (i := 2) rfl rfl⟩, ⟨⟨HI.out.1.1.later h, HI.out.1.2.later h⟩, ⟨HI.out.2.1.1.later h, HI.out.2.1.2.later h⟩, ⟨HI.out.2.2.1.later h, HI.out.2.2.2.later h⟩⟩, H.below⟩
  have D0 := Lib.hid (HH.start v8).drew
  have Q0 := Lib.hid (O8.out _ D0.out.below).1
  have hq0 := Q0.out
  clear HI H8
  go_region_held3 (fun W' => W'.cell? ⟨w.heap.size, 0, none⟩ = some (.slice aSa na cSa) ∧ W'.cell? ⟨w.heap.size, 1, none⟩ = some (.slice aMa ma cMa) ∧ W'.cell? ⟨w.heap.size, 2, none⟩ = some (.int .i64 0) ∧ W'.cell? ⟨w.heap.size + 1, 0, none⟩ = some (.slice aSb nb cSb) ∧ W'.cell? ⟨w.heap.size + 1, 1, none⟩ = some (.slice aMb mb cMb) ∧ W'.cell? ⟨w.heap.size + 1, 2, none⟩ = some (.int .i64 0) ∧ W'.cell? ⟨q5, 0, none⟩ = some (.slice a5 (na + nb) c5) ∧ W'.cell? ⟨q5, 1, none⟩ = some (.slice b5 (ma + mb) d5) ∧ W'.cell? ⟨q5, 2, none⟩ = some (.int .i64 0) ∧ W'.cell? ⟨q7, 0, none⟩ = some (.slice a7 na c7) ∧ W'.cell? ⟨q7, 1, none⟩ = some (.slice b7 ma d7) ∧ W'.cell? ⟨q7, 2, none⟩ = some (.int .i64 0) ∧ W'.cell? ⟨q7 + 1, 0, none⟩ = some (.slice a8 nb c8) ∧ W'.cell? ⟨q7 + 1, 1, none⟩ = some (.slice b8 mb d8) ∧ W'.cell? ⟨q7 + 1, 2, none⟩ = some (.int .i64 0))
    (first
      | with_reducible exact Q0.out
      | with_reducible exact Q1.out
      | with_reducible exact Q2.out
      | with_reducible exact Q3.out
      | with_reducible exact Q4.out)
    (first
      | ((with_reducible refine (HEa.out a7 b7 aSa aMa c7 d7 cSa cMa _ (O8.out _ D0.out.below).2.1.2.1.1 (O8.out _ D0.out.below).2.1.2.1.2 (HSM.out _ (O8.out _ D0.out.below).2.2).1.1 (HSM.out _ (O8.out _ D0.out.below).2.2).1.2).mono ?_); rintro e y1 ⟨rfl, hb⟩; have D1 := Lib.hid (D0.out.call hb); have Q1 := Lib.hid (O8.out _ D1.out.below).1; clear hb)
      | ((with_reducible refine (HEb.out a8 b8 aSb aMb c8 d8 cSb cMb _ (O8.out _ D1.out.below).2.1.2.2.1 (O8.out _ D1.out.below).2.1.2.2.2 (HSM.out _ (O8.out _ D1.out.below).2.2).2.1 (HSM.out _ (O8.out _ D1.out.below).2.2).2.2).mono ?_); rintro e y2 ⟨rfl, hb⟩; have D2 := Lib.hid (D1.out.call hb); have Q2 := Lib.hid (O8.out _ D2.out.below).1; clear hb)
      | ((with_reducible refine (HCu.out a5 b5 c5 d5 _ (O8.out _ D2.out.below).2.1.1.1 (O8.out _ D2.out.below).2.1.1.2).mono ?_); rintro e y3 ⟨A9, C9, rfl, ho, hb⟩; have D3 := Lib.hid (D2.out.addSl hb ho); have Q3 := Lib.hid (O8.out _ D3.out.below).1; clear hb ho)
      | ((with_reducible refine (HCt.out A9 C9 _ (D3.out.sl (k := 0) rfl).at).mono ?_); rintro e y4 ⟨rfl, hb⟩; have D4 := Lib.hid (D3.out.call hb); have Q4 := Lib.hid (O8.out _ D4.out.below).1; clear hb))
  go_wp2_with fail
  go_ret
  exact ⟨rfl, (O8.out _ D4.out.below).2.2⟩
theorem lund_any (Sa Ma : List Int) (La : Int) (aSa aMa : Option Addr) (cSa cMa : Nat) (x : Int) (Sb Mb : List Int) (Lb : Int) (aSb aMb : Option Addr) (cSb cMb : Nat) (y : Int) (w : World) (_ : Sa.length ≤ maxLen) (_ : Ma.length ≤ maxLen) (_ : (Lit.int .i64 La).wf = true) (hSa : IntsAt w aSa Sa) (hMa : IntsAt w aMa Ma) (_ : (Lit.int .i64 x).wf = true) (_ : Sb.length ≤ maxLen) (_ : Mb.length ≤ maxLen) (_ : (Lit.int .i64 Lb).wf = true) (hSb : IntsAt w aSb Sb) (hMb : IntsAt w aMb Mb) (_ : (Lit.int .i64 y).wf = true) :
    Calls Try.prog 6 #[.agg #[.slice aSa Sa.length cSa, .slice aMa Ma.length cMa, .int .i64 La], .int .i64 x, .agg #[.slice aSb Sb.length cSb, .slice aMb Mb.length cMb, .int .i64 Lb], .int .i64 y] w fun e w' => e = .returned (.bool true) ∧ Below w.heap.size w w' := by
  cases hga : greatB Sa Ma La
  · cases hgb : greatB Sb Mb Lb
    · by_cases hx : x < 0
      · exact lund_x Sa Ma La aSa aMa cSa cMa x Sb Mb Lb aSb aMb cSb cMb y w hga hgb hx
      · by_cases hy : y < 0
        · exact lund_y Sa Ma La aSa aMa cSa cMa x Sb Mb Lb aSb aMb cSb cMb y w hga hgb (by omega) hy
        · by_cases hp : gN Sa Ma La = 1
          · by_cases hq : gN Sb Mb Lb = 1
            · cases hpa : placeB Sa 0 x
              · exact lund_ra Sa Ma La aSa aMa cSa cMa x Sb Mb Lb aSb aMb cSb cMb y w hga hgb (by omega) (by omega) hp hq hpa hSa hMa hSb hMb
              · cases hpb : placeB Sb 0 y
                · exact lund_rb Sa Ma La aSa aMa cSa cMa x Sb Mb Lb aSb aMb cSb cMb y w hga hgb (by omega) (by omega) hp hq hpa hpb hSa hMa hSb hMb
                · have gx : 0 ≤ x ∧ x < 4 * (Sa.length : Int) := by
                    by_cases g : 0 ≤ x ∧ x < 4 * (Sa.length : Int)
                    · exact g
                    · rw [placeB_out (by omega) g] at hpa; cases hpa
                  have gy : 0 ≤ y ∧ y < 4 * (Sb.length : Int) := by
                    by_cases g : 0 ≤ y ∧ y < 4 * (Sb.length : Int)
                    · exact g
                    · rw [placeB_out (by omega) g] at hpb; cases hpb
                  obtain ⟨X, rfl⟩ : ∃ X : Nat, x = (X : Int) := ⟨x.toNat, by omega⟩
                  obtain ⟨Y, rfl⟩ : ∃ Y : Nat, y = (Y : Int) := ⟨y.toNat, by omega⟩
                  have hX4 : X < 4 * Sa.length := by omega
                  have hY4 : Y < 4 * Sb.length := by omega
                  rw [placeB_at hX4] at hpa
                  rw [placeB_at hY4] at hpb
                  exact lund_yes Sa Ma La aSa aMa cSa cMa X Sb Mb Lb aSb aMb cSb cMb Y w hga hgb hp hq hX4 hY4 hpa hpb hSa hMa hSb hMb
            · exact lund_q Sa Ma La aSa aMa cSa cMa x Sb Mb Lb aSb aMb cSb cMb y w hga hgb (by omega) (by omega) hp hq hSa hMa hSb hMb
          · exact lund_p Sa Ma La aSa aMa cSa cMa x Sb Mb Lb aSb aMb cSb cMb y w hga hgb (by omega) (by omega) hp hSa hMa
    · exact lund_gb Sa Ma La aSa aMa cSa cMa x Sb Mb Lb aSb aMb cSb cMb y w hga hgb
  · exact lund_ga Sa Ma La aSa aMa cSa cMa x Sb Mb Lb aSb aMb cSb cMb y w hga
end Go.Proofs.Ytmjoijfafachhaa
