/- canon.Symmetries: the number of symmetries, from the pieces. -/
import Derived.WalkKit
import Derived.WalkSpells
import Derived.WalkLawsBesides
import Derived.Deep.AppendSrc
import Derived.Deep.LoopGhost
import Derived.Deep.QuietTactic
import Derived.Deep.RegionWith
import Derived.Deep.DeepMust
import Derived.Deep.DeepFit
import Derived.BigQuiet
import Derived.Lib.Hide
import Derived.Outline
import Derived.Test.YtmhhjchnjaefhaaDoorProg
import Derived.Deep.Matrix
import Derived.Deep.DeepCutAuto
import Derived.Deep.RegionLaw
import Derived.Deep.RegionHeld3
import Derived.Lib.SliceRun
import Derived.Shelf.Strings.Builder1
import Derived.Shelf.Small.Wraps
import Derived.Shelf.Strings.BuilderF
import Derived.Shelf.Strings.BuilderK
import Derived.Shelf.Strconv.Itoa0
import Derived.Shelf.Strconv.Itoa1
import Derived.Shelf.LaysM
import Derived.Shelf.Strconv.Itoa2
import Derived.Shelf.Strconv.Itoa3
import Derived.Shelf.Slices.Equal
import Derived.Ground.Names2Prog
import Derived.Shelf.Slices.Clone
import Derived.Shelf.Slices.SearchI
import Derived.Shelf.Slices.Empties2
import Derived.Ground.SlgnProg
import Derived.Shelf.SlicesE.Clone
import Derived.Sort.OwnSortedInts
import Derived.Shelf.Small.Bits
import Derived.Shelf.Sort.Plain
import Derived.Shelf.Slices.Turned
import Derived.Shelf.Slices.CompactI
import Derived.Shelf.Slices.Cells
import Derived.Shelf.Slices.In.SortNone
import Derived.Lib.AppendZeros
import Derived.Deep.RegionHeld
import Derived.Test.YtmhhjchnjaefhaaDoorUAa
import Derived.Test.YtmhhjchnjaefhaaDoorUAb
import Derived.Test.YtmhhjchnjaefhaaDoorUAc
import Derived.Test.YtmhhjchnjaefhaaDoorUAd
import Derived.Test.YtmhhjchnjaefhaaDoorUAe
import Derived.Test.YtmhhjchnjaefhaaDoorUAf
import Derived.Test.YtmhhjchnjaefhaaDoorUAg
import Derived.Test.YtmhhjchnjaefhaaDoorUAh
import Derived.Test.YtmhhjchnjaefhaaDoorUAi
import Derived.Test.YtmhhjchnjaefhaaDoorUAj
import Derived.Test.YtmhhjchnjaefhaaDoorUAk
import Derived.Test.YtmhhjchnjaefhaaDoorUAl
import Derived.Test.YtmhhjchnjaefhaaDoorUAm
import Derived.Test.YtmhhjchnjaefhaaDoorUAn
import Derived.Test.YtmhhjchnjaefhaaDoorUAp
namespace Go.Proofs.YtmhhjchnjaefhaaDoor
open Go Go.RowKit
theorem wrapi_all {x : Int} (h0 : -9223372036854775808 ≤ x) (h1 : x ≤ 9223372036854775807) : IntKind.i64.wrap x = x := by
  rw [IntKind.wrap_i64]; omega
theorem wrap_mul {a b B : Int} (h0 : 0 ≤ a) (h1 : a ≤ B) (h2 : 0 ≤ b) (h3 : b ≤ 21) (hB : B * 21 ≤ 9223372036854775807) : IntKind.i64.wrap (a * b) = a * b ∧ wrap64 (a * b) = a * b ∧ 0 ≤ a * b ∧ a * b ≤ B * 21 := by
  have k1 := Int.mul_nonneg h0 h2
  have k2 := Int.mul_le_mul h1 h3 h2 (by omega)
  generalize a * b = x at *
  exact ⟨wrapi_all (by omega) (by omega), by unfold wrap64; omega, k1, k2⟩
set_option maxRecDepth 100000 in
set_option maxHeartbeats 1000000 in
theorem sym_yes (S M : List Int) (L : Int) (aS aM : Option Addr) (cS cM : Nat) (w : World) (hv : vldB S M L = true) (h20 : S.length ≤ 20) (hS : IntsAt w aS S) (hM : IntsAt w aM M) :
    Calls Tryd.prog 15 #[.agg #[.slice aS S.length cS, .slice aM M.length cM, .int .i64 L]] w fun e w' => e = .returned (.int .i64 (symV S M S.length)) ∧ Below w.heap.size w w' := by
  have hs := vldB_shape hv
  have hMl := hs.len
  have HV : Hid (∀ W', Below w.heap.size w W' → Calls Tryd.prog 18 #[.agg #[.slice aS S.length cS, .slice aM M.length cM, .int .i64 L]] W' fun e w' => e = .returned (.bool true) ∧ Below W'.heap.size W' w') := Lib.hid fun W' h => by
    have g := valid_any S M L aS aM cS cM W' (by omega) (by omega) (hS.later h) (hM.later h)
    rw [hv] at g; exact g
  have HP : Hid (∀ W', Below w.heap.size w W' → Calls Tryd.prog 44 #[.agg #[.slice aS S.length cS, .slice aM M.length cM, .int .i64 L]] W' fun e w' => ∃ A C ys, e = .returned (.slice A ys.length C) ∧ Hid ((symT ys ys.length).1 = symV S M S.length ∧ ys.length ≤ 20 ∧ ∀ i, i < ys.length → (ys.getD i ([], [], 0)).1.length ≤ 100 ∧ 1 ≤ (ys.getD i ([], [], 0)).2.2 ∧ (ys.getD i ([], [], 0)).2.2 ≤ 20 ∧ 1 ≤ (symT ys i).1 ∧ (symT ys i).1 ≤ 1099511627776 ∧ 0 ≤ (symT ys i).2 ∧ (symT ys i).2 ≤ (i : Int)) ∧ RdD w' A ys ∧ Below W'.heap.size W' w') := Lib.hid fun W' h => by
    refine (cpieces_any S M L aS aM cS cM W' hv h20 (hS.later h) (hM.later h)).mono ?_
    rintro e w' ⟨A, C, ys, vs, rfl, hsr, ho, hc, hb⟩
    have hyl : ys.length ≤ 20 := by
      rw [hsr.perm.length_eq, List.length_map]; exact Nat.le_trans (grp_len M S.length) h20
    refine ⟨A, C, ys, rfl, Lib.hid ⟨symT_all hsr, hyl, fun i hi => ?_⟩, hc.rd ho, hb⟩
    have hm : ys.getD i ([], [], 0) ∈ ys := by rw [List.getD_eq_getElem?_getD, List.getElem?_eq_getElem hi]; exact List.getElem_mem _
    have h1 := piece_few (fun x hx => hs.mt_lt hx) hsr hm
    have h2 := piece_roots hsr hm
    have h3 := symT_bd (fun p hp => (piece_roots hsr hp).1) (Nat.le_of_lt hi)
    exact ⟨by omega, h2.1, by omega, h3⟩
  have HE : Hid (∀ (xs ys : List Int) (A B : Option Addr) (C D : Nat) W', xs.length ≤ 100 → IntsAt W' A xs → IntsAt W' B ys → Calls Tryd.prog 43 #[.slice A xs.length C, .slice B ys.length D] W' fun e w' => e = .returned (.bool (decide (xs = ys))) ∧ Below W'.heap.size W' w') := Lib.hid fun xs ys A B C D W' hl h1 h2 => sEq_any xs ys A B C D W' (by omega) h1 h2
  have H0 := Lib.hid ((HH.start w).alloc #[.slice aS S.length cS, .slice aM M.length cM, .int .i64 L] 24 rfl rfl)
  clear hv hS hM hs hMl h20
  generalize symV S M S.length = SV at *
  generalize S.length = n at *
  generalize M.length = N at *
  go_enter Tryd.func15, Tryd.ntmps15
  have k00 := H0.out.cell (k := 0) (i := 0) rfl rfl
  have k01 := H0.out.cell (k := 0) (i := 1) rfl rfl
  have k02 := H0.out.cell (k := 0) (i := 2) rfl rfl
  go_wp2_with fail
  clear k00 k01 k02
  refine (HV.out _ H0.out.below).mono ?_
  rintro e w1 ⟨rfl, hb⟩
  have H1 := Lib.hid (H0.out.call hb)
  clear hb H0 HV
  have k00 := H1.out.cell (k := 0) (i := 0) rfl rfl
  have k01 := H1.out.cell (k := 0) (i := 1) rfl rfl
  have k02 := H1.out.cell (k := 0) (i := 2) rfl rfl
  go_wp2_with fail
  clear k00 k01 k02
  refine (HP.out _ H1.out.below).mono ?_
  rintro e w2 ⟨A, C, ys, rfl, HY, hrd, hb⟩
  have H2 := Lib.hid (H1.out.call hb)
  have HR := Lib.hid hrd
  clear hrd hb H1 HP
  have hyl : ys.length ≤ 20 := HY.out.2.1
  have HBw := Lib.hid H2.out.below
  clear H2
  go_wp2_with fail
  go_loopg [15, 3, 4] ys.length (fun g v s3 s4 wr => ∃ i : Nat, i ≤ ys.length ∧ g = ys.length - i ∧ v = .int .i64 i ∧ s3 = .int .i64 (symT ys i).1 ∧ s4 = .int .i64 (symT ys i).2 ∧ Hid (Below w2.heap.size w2 wr))
  case atStart => exact ⟨0, Nat.zero_le _, rfl, rfl, rfl, rfl, Lib.hid (Below.refl _ _)⟩
  case round =>
    obtain ⟨i, hi, rfl, rfl, rfl, rfl, Jr⟩ := hrel
    by_cases hil : i < ys.length
    · obtain ⟨b, o, a, c, e, f, rfl, h1, h2, h3, h4, h5⟩ := (HR.out.later Jr.out) i _ (getD_some (d := ([], [], 0)) hil)
      obtain ⟨hb1, hb2, hb3, hb4, hb5, hb6, hb7⟩ := HY.out.2.2 i hil
      have HS1 : Hid ((symT ys (i + 1)).1 = min ((symT ys i).1 * (ys.getD i ([], [], 0)).2.2 * (if 0 < i ∧ (ys.getD i ([], [], 0)).1 = (ys.getD (i - 1) ([], [], 0)).1 then (symT ys i).2 + 1 else 1)) 1099511627776 ∧ (symT ys (i + 1)).2 = (if 0 < i ∧ (ys.getD i ([], [], 0)).1 = (ys.getD (i - 1) ([], [], 0)).1 then (symT ys i).2 + 1 else 1)) := Lib.hid ⟨rfl, rfl⟩
      by_cases h0 : i = 0
      · rw [if_neg (by omega)] at HS1
        have t1 : decide (0 < (i : Int)) = false := decide_eq_false (by omega)
        have t2 : decide (0 < i) = false := decide_eq_false (by omega)
        clear h0
        generalize ys.getD i ([], [], 0) = dd at *
        obtain ⟨Xd, Yd, r3⟩ := dd
        dsimp only at *
        clear h4 h5
        generalize Xd.length = l1 at *
        generalize Yd.length = l2 at *
        generalize (symT ys i).1 = tot at *
        generalize (symT ys i).2 = ak at *
        have K0 := Lib.hid ((HH.start wr).alloc #[.slice a l1 c, .slice e l2 f, .int .i64 r3] 51 (b := wr.heap.size) rfl rfl)
        have JB := Lib.hid (Jr.out.alloc Jr.out.size (.cells #[.slice a l1 c, .slice e l2 f, .int .i64 r3] 51))
        go_upto_region 9 with fail
        clear h1 h2 h3 Jr
        generalize wr.alloc (.cells #[.slice a l1 c, .slice e l2 f, .int .i64 r3] 51) = v1 at *
        generalize wr.heap.size = q at *
        go_quiet (fail)
        have y2 := fun nn => (K0.out.drewN nn).cell (k := 0) (i := 2) rfl rfl
        obtain ⟨m1, m1', m2, m3⟩ := wrap_mul (a := tot) (b := r3) (B := 1099511627776) (by omega) hb5 (by omega) (by omega) (by decide)
        obtain ⟨m4, m4', _, _⟩ := wrap_mul (a := tot * r3) (b := 1) (B := 1099511627776 * 21) m2 m3 (by omega) (by omega) (by decide)
        go_wp2_with fail
        go_roundg (ys.length - (i + 1))
        case measure => omega
        case rel => exact ⟨i + 1, by omega, rfl, by go_num, by rw [HS1.out.1, Int.mul_one], by rw [HS1.out.2], Lib.hid (below_drewNN JB.out _)⟩
      · obtain ⟨j, hj⟩ : ∃ j, i = j + 1 := ⟨i - 1, by omega⟩
        obtain ⟨b', o', a', c', e', f', hab, g1, _, _, g4, _⟩ := (HR.out.later Jr.out) j _ (getD_some (d := ([], [], 0)) (show j < ys.length by omega))
        cases hab
        have hc1 := (HY.out.2.2 j (by omega)).1
        have Hpos : Hid (0 < i) := Lib.hid (by omega)
        rw [show i - 1 = j by omega] at HS1
        have w1 : IntKind.i64.wrap ((i : Int) - 1) = (j : Int) := by rw [wrapi_mid (by omega) (by omega)]; omega
        have w1' : (i : Int) - 1 = (j : Int) := by omega
        have t1 : decide (0 < (i : Int)) = true := decide_eq_true (by omega)
        have t2 : decide (0 < i) = true := decide_eq_true (by omega)
        have hjl : j < ys.length := by omega
        have hji : (j : Int) < (ys.length : Int) := by omega
        have Hw1 := Lib.hid w1'
        clear h0 hj w1'
        generalize ys.getD i ([], [], 0) = dd at *
        generalize ys.getD j ([], [], 0) = dp at *
        obtain ⟨Xd, Yd, r3⟩ := dd
        obtain ⟨Xp, Yp, rp⟩ := dp
        dsimp only at *
        obtain ⟨rb, hrb⟩ : ∃ rb : Bool, rb = decide (Xd = Xp) := ⟨_, rfl⟩
        have HE1 : Hid (∀ W', Below wr.heap.size wr W' → Calls Tryd.prog 43 #[.slice a Xd.length c, .slice a' Xp.length c'] W' fun e w' => e = .returned (.bool rb) ∧ Below W'.heap.size W' w') := Lib.hid fun W' h => by rw [hrb]; exact HE.out Xd Xp a a' c c' W' hb1 (h4.later h) (g4.later h)
        clear h4 h5 g4
        generalize (symT ys i).1 = tot at *
        generalize (symT ys i).2 = ak at *
        generalize Xd.length = l1 at *
        generalize Yd.length = l2 at *
        generalize Xp.length = l1' at *
        have K0 := Lib.hid ((HH.start wr).alloc #[.slice a l1 c, .slice e l2 f, .int .i64 r3] 51 (b := wr.heap.size) rfl rfl)
        have JB := Lib.hid (Jr.out.alloc Jr.out.size (.cells #[.slice a l1 c, .slice e l2 f, .int .i64 r3] 51))
        have HE2 : Hid (∀ W', Below (wr.alloc (.cells #[.slice a l1 c, .slice e l2 f, .int .i64 r3] 51)).heap.size (wr.alloc (.cells #[.slice a l1 c, .slice e l2 f, .int .i64 r3] 51)) W' → Calls Tryd.prog 43 #[.slice a l1 c, .slice a' l1' c'] W' fun e w' => e = .returned (.bool rb) ∧ Below W'.heap.size W' w') := Lib.hid fun W' h => HE1.out W' (below_step ((Below.refl _ _).alloc (Nat.le_refl _) _) h)
        have HQ : Hid (∀ W', Below (wr.alloc (.cells #[.slice a l1 c, .slice e l2 f, .int .i64 r3] 51)).heap.size (wr.alloc (.cells #[.slice a l1 c, .slice e l2 f, .int .i64 r3] 51)) W' → W'.cell? ⟨wr.heap.size, 0, none⟩ = some (.slice a l1 c) ∧ W'.cell? ⟨b, o + j * 3, none⟩ = some (.slice a' l1' c')) := Lib.hid fun W' h => ⟨(K0.out.call h).cell (k := 0) (i := 0) rfl rfl, by
          have hb := (below_step ((Below.refl _ _).alloc (Nat.le_refl _) (.cells #[.slice a l1 c, .slice e l2 f, .int .i64 r3] 51)) h)
          exact (hb.cell (p := ⟨b, o + j * 3, none⟩) (World.block_lt_of_cell? _ _ g1)).trans g1⟩
        clear HE1
        go_upto_region 9 with fail
        clear h1 h2 h3 g1 Jr
        generalize wr.alloc (.cells #[.slice a l1 c, .slice e l2 f, .int .i64 r3] 51) = v1 at *
        generalize wr.heap.size = q at *
        have HE1 := HE2
        clear HE2
        have bd : Hid (Below v1.heap.size v1 v1.drew) := Lib.hid (Below.refl _ _).drew
        have Q0 := Lib.hid (HQ.out _ bd.out)
        by_cases hx : Xd = Xp
        · obtain rfl : rb = true := by rw [hrb]; exact decide_eq_true hx
          clear hrb
          rw [if_pos ⟨Hpos.out, hx⟩] at HS1
          clear hx
          go_region_held3 (fun W' => W'.cell? ⟨q, 0, none⟩ = some (.slice a l1 c) ∧ W'.cell? ⟨b, o + j * 3, none⟩ = some (.slice a' l1' c'))
            (first
              | with_reducible exact Q0.out
              | with_reducible exact Q1.out)
            (first
              | ((with_reducible refine (HE1.out _ bd.out).mono ?_); rintro e w5 ⟨rfl, hB5⟩; have B1 := Lib.hid (bd.out.trans (hB5.mono bd.out.size)); have Q1 := Lib.hid (HQ.out _ B1.out)))
          have K1 := Lib.hid (K0.out.call B1.out)
          have JB1 : Hid (Below w2.heap.size w2 w5) := Lib.hid (JB.out.trans (B1.out.mono JB.out.size))
          have y2 := K1.out.cell (k := 0) (i := 2) rfl rfl
          obtain ⟨m1, m1', m2, m3⟩ := wrap_mul (a := tot) (b := r3) (B := 1099511627776) (by omega) hb5 (by omega) (by omega) (by decide)
          obtain ⟨m4, m4', _, _⟩ := wrap_mul (a := tot * r3) (b := ak + 1) (B := 1099511627776 * 21) m2 m3 (by omega) (by omega) (by decide)
          have m5 : IntKind.i64.wrap (ak + 1) = ak + 1 := wrapi_mid (by omega) (by omega)
          go_wp2_with fail
          go_roundg (ys.length - (i + 1))
          case measure => omega
          case rel => exact ⟨i + 1, by omega, rfl, by go_num, by rw [HS1.out.1], by rw [HS1.out.2], JB1⟩
        · obtain rfl : rb = false := by rw [hrb]; exact decide_eq_false hx
          clear hrb
          rw [if_neg (fun h => hx h.2)] at HS1
          clear hx
          go_region_held3 (fun W' => W'.cell? ⟨q, 0, none⟩ = some (.slice a l1 c) ∧ W'.cell? ⟨b, o + j * 3, none⟩ = some (.slice a' l1' c'))
            (first
              | with_reducible exact Q0.out
              | with_reducible exact Q1.out)
            (first
              | ((with_reducible refine (HE1.out _ bd.out).mono ?_); rintro e w5 ⟨rfl, hB5⟩; have B1 := Lib.hid (bd.out.trans (hB5.mono bd.out.size)); have Q1 := Lib.hid (HQ.out _ B1.out)))
          have K1 := Lib.hid (K0.out.call B1.out)
          have JB1 : Hid (Below w2.heap.size w2 w5) := Lib.hid (JB.out.trans (B1.out.mono JB.out.size))
          have y2 := K1.out.cell (k := 0) (i := 2) rfl rfl
          obtain ⟨m1, m1', m2, m3⟩ := wrap_mul (a := tot) (b := r3) (B := 1099511627776) (by omega) hb5 (by omega) (by omega) (by decide)
          obtain ⟨m4, m4', _, _⟩ := wrap_mul (a := tot * r3) (b := 1) (B := 1099511627776 * 21) m2 m3 (by omega) (by omega) (by decide)
          go_wp2_with fail
          go_roundg (ys.length - (i + 1))
          case measure => omega
          case rel => exact ⟨i + 1, by omega, rfl, by go_num, by rw [HS1.out.1, Int.mul_one], by rw [HS1.out.2], JB1⟩
    · obtain rfl : i = ys.length := by omega
      have HE2 : Hid ((symT ys ys.length).1 = SV) := Lib.hid HY.out.1
      rw [HE2.out]
      clear HE2
      go_wp2_with fail
      go_ret
      exact ⟨rfl, HBw.out.trans (Jr.out.mono HBw.out.size)⟩
end Go.Proofs.YtmhhjchnjaefhaaDoor

