/- The walks of the stable sort: symMerge, stableCmpFunc, SortStableFunc: the row is renumbered within itself. -/
import Derived.Test.YtlgiponfcmeiiaaStC
namespace Go.Proofs.Ytlgiponfcmeiiaa
open Go Go.RowKit
set_option maxRecDepth 100000 in
set_option maxHeartbeats 4000000 in
theorem sym_any (S : SC) (k : S.Ok) (z : Nat) (hz : z = 0) : ∀ (N : Nat) (W : World) (xs : List Int) (a m b : Nat), S.At W xs → b - a ≤ N → a < m → m < b → b ≤ S.n →
    Calls Try.prog 38 #[.slice (some ⟨S.b, z, none⟩) S.n S.n, .int .i64 (a : Int), .int .i64 (m : Int), .int .i64 (b : Int), .func (.func 30) #[] #[.pointer (some ⟨S.p, 0, none⟩)]] W fun e w' => e = .returned (.tuple #[]) ∧ ∃ ys, S.At w' ys := by
  have hn := k.hn
  intro N
  induction N with
  | zero => intro W xs a m b _ h1 h2 h3 _; omega
  | succ N ih =>
    intro W xs a m b h hN ham hmb hb
    have Hk := Lib.hid k
    have Hh := Lib.hid h
    have Hz := Lib.hid hz
    have IH : Hid (∀ (W : World) (xs : List Int) (a m b : Nat), S.At W xs → b - a ≤ N → a < m → m < b → b ≤ S.n → Calls Try.prog 38 #[.slice (some ⟨S.b, z, none⟩) S.n S.n, .int .i64 (a : Int), .int .i64 (m : Int), .int .i64 (b : Int), .func (.func 30) #[] #[.pointer (some ⟨S.p, 0, none⟩)]] W fun e w' => e = .returned (.tuple #[]) ∧ ∃ ys, S.At w' ys) := Lib.hid ih
    have HR : Hid (∀ (W : World) (xs : List Int) (a m b : Nat), S.At W xs → a < m → m < b → b ≤ S.n → Calls Try.prog 50 #[.slice (some ⟨S.b, z, none⟩) S.n S.n, .int .i64 (a : Int), .int .i64 (m : Int), .int .i64 (b : Int), .func (.func 30) #[] #[.pointer (some ⟨S.p, 0, none⟩)]] W fun e w' => e = .returned (.tuple #[]) ∧ ∃ ys, S.At w' ys) := Lib.hid fun W xs a m b h h1 h2 h3 => rotate_any S k W xs h z hz a m b h1 h2 h3 _
    clear k h hz ih
    by_cases c1 : m = a + 1
    · have d0 : ((m : Int) - (a : Int) == 1) = true := by simp; omega
      have m1 : m ≤ a + 1 := by omega
      clear c1
      go_enter Try.func38, Try.ntmps38
      go_wp2_with fail
      go_loopg [10, 11] (b - (m)) (fun g u v wr => ∃ (i j : Nat) (ys : List Int), m ≤ i ∧ i ≤ j ∧ j ≤ b ∧ g = j - i ∧ u = .int .i64 i ∧ v = .int .i64 j ∧ S.At wr ys)
      case atStart => exact ⟨m, b, xs, by omega, by omega, by omega, rfl, by go_num, by go_num, Hh.out⟩
      case round =>
        obtain ⟨i, j, ys, hai, hij, hjb, rfl, rfl, rfl, hh⟩ := hrel
        have Hr := Lib.hid hh
        clear hh Hh
        by_cases hlt : i < j
        · obtain ⟨c, hc⟩ : ∃ c : Nat, c = (i + j) / 2 := ⟨_, rfl⟩
          have hc1 : i ≤ c := by omega
          have hc2 : c < j := by omega
          have hq2 : ((i : Int) + (j : Int)) / 2 = (c : Int) := by omega
          have hcn : c < S.n := by omega
          clear hc
          have hcw0 := Hr.out.fam Hk.out Hz.out
          obtain ⟨G, hG⟩ : ∃ G : Nat → Int, ∀ t, G t = nth ys t := ⟨fun t => nth ys t, fun _ => rfl⟩
          have hcw : ∀ t, t < S.n → wr.cell? ⟨S.b, z + t, none⟩ = some (.int .i64 (G t)) := fun t ht => by rw [hG]; exact hcw0 t ht
          obtain ⟨cv, hcv⟩ := Hr.out.less Hk.out (c) (a) (by omega) (by omega)
          rw [← hG, ← hG] at hcv
          have HL := Lib.hid hcv
          have HD : Hid (∀ q, S.At (wr.drewN q) ys) := Lib.hid fun q => Hr.out.drewN q
          clear hcv hcw0 hG Hr
          by_cases hv : cv < 0
          · have d5 : decide (cv < 0) = true := decide_eq_true hv
            go_wp2_with fail
            go_quiet (first | (go_at_call 30; exact Calls.quiet_of (HL.out _)))
            go_wp2_with fail
            go_roundg (j - (c + 1))
            case measure => omega
            case rel => exact ⟨c + 1, j, ys, by omega, by omega, by omega, rfl, by go_num, rfl, HD.out _⟩
          · have d5 : decide (cv < 0) = false := decide_eq_false hv
            go_wp2_with fail
            go_quiet (first | (go_at_call 30; exact Calls.quiet_of (HL.out _)))
            go_wp2_with fail
            go_roundg (c - i)
            case measure => omega
            case rel => exact ⟨i, c, ys, by omega, by omega, by omega, rfl, rfl, by go_num, HD.out _⟩
        · obtain rfl : j = i := by omega
          go_wp2_with fail
          go_loopg [13] (j - 1 - a) (fun g v wr => ∃ (t : Nat) (ys : List Int), a ≤ t ∧ t ≤ j - 1 ∧ g = j - 1 - t ∧ v = .int .i64 t ∧ S.At wr ys)
          case atStart => exact ⟨a, ys, by omega, by omega, rfl, by go_num, Hr.out⟩
          case round =>
            obtain ⟨t, ys, ht1, ht2, rfl, rfl, hh⟩ := hrel
            have Hs := Lib.hid hh
            clear hh Hr
            by_cases htl : t + 1 < j
            · have hcw0 := Hs.out.fam Hk.out Hz.out
              have hfw := Hs.out.famz Hz.out
              obtain ⟨G, hG⟩ : ∃ G : Nat → Int, ∀ t, G t = nth ys t := ⟨fun t => nth ys t, fun _ => rfl⟩
              have hcw : ∀ t, t < S.n → wr.cell? ⟨S.b, z + t, none⟩ = some (.int .i64 (G t)) := fun t ht => by rw [hG]; exact hcw0 t ht
              have HS : Hid (∃ zs, S.At (((wr.setCell ⟨S.b, z + t, none⟩ (.int .i64 (G (t + 1)))).setCell ⟨S.b, z + (t + 1), none⟩ (.int .i64 (G t)))).drew zs) := Lib.hid (by
                rw [hG, hG]
                obtain ⟨zs, hs⟩ := Hs.out.swapz Hk.out Hz.out t (t + 1) (by omega) (by omega)
                exact ⟨zs, hs.drew⟩)
              have htn : t < S.n := by omega
              have htm : t + 1 < S.n := by omega
              clear hcw0 hG Hs
              go_wp2_with fail
              go_region
              clear hcw hfw
              go_wp2_with fail
              go_roundg (j - 1 - (t + 1))
              case measure => omega
              case rel =>
                obtain ⟨zs, hs⟩ := HS.out
                exact ⟨t + 1, zs, by omega, by omega, rfl, by go_num, hs⟩
            · go_wp2_with fail
              refine bodyPost_ret (results_none rfl _ _ _) rfl ?_
              exact ⟨rfl, _, Hs.out⟩
    · have d0 : ((m : Int) - (a : Int) == 1) = false := by rw [beq_eq_false_iff_ne]; omega
      have d0' : ¬ ((m : Int) - (a : Int) = 1) := by omega
      by_cases c2 : b = m + 1
      · have d1 : ((b : Int) - (m : Int) == 1) = true := by simp; omega
        have m1 : b ≤ m + 1 := by omega
        clear c2
        go_enter Try.func38, Try.ntmps38
        go_wp2_with fail
        go_loopg [14, 15] (m - (a)) (fun g u v wr => ∃ (i j : Nat) (ys : List Int), a ≤ i ∧ i ≤ j ∧ j ≤ m ∧ g = j - i ∧ u = .int .i64 i ∧ v = .int .i64 j ∧ S.At wr ys)
        case atStart => exact ⟨a, m, xs, by omega, by omega, by omega, rfl, by go_num, by go_num, Hh.out⟩
        case round =>
          obtain ⟨i, j, ys, hai, hij, hjb, rfl, rfl, rfl, hh⟩ := hrel
          have Hr := Lib.hid hh
          clear hh Hh
          by_cases hlt : i < j
          · obtain ⟨c, hc⟩ : ∃ c : Nat, c = (i + j) / 2 := ⟨_, rfl⟩
            have hc1 : i ≤ c := by omega
            have hc2 : c < j := by omega
            have hq2 : ((i : Int) + (j : Int)) / 2 = (c : Int) := by omega
            have hcn : c < S.n := by omega
            clear hc
            have hcw0 := Hr.out.fam Hk.out Hz.out
            obtain ⟨G, hG⟩ : ∃ G : Nat → Int, ∀ t, G t = nth ys t := ⟨fun t => nth ys t, fun _ => rfl⟩
            have hcw : ∀ t, t < S.n → wr.cell? ⟨S.b, z + t, none⟩ = some (.int .i64 (G t)) := fun t ht => by rw [hG]; exact hcw0 t ht
            obtain ⟨cv, hcv⟩ := Hr.out.less Hk.out (m) (c) (by omega) (by omega)
            rw [← hG, ← hG] at hcv
            have HL := Lib.hid hcv
            have HD : Hid (∀ q, S.At (wr.drewN q) ys) := Lib.hid fun q => Hr.out.drewN q
            clear hcv hcw0 hG Hr
            by_cases hv : cv < 0
            · have d5 : decide (cv < 0) = true := decide_eq_true hv
              go_wp2_with fail
              go_quiet (first | (go_at_call 30; exact Calls.quiet_of (HL.out _)))
              go_wp2_with fail
              go_roundg (c - i)
              case measure => omega
              case rel => exact ⟨i, c, ys, by omega, by omega, by omega, rfl, rfl, by go_num, HD.out _⟩
            · have d5 : decide (cv < 0) = false := decide_eq_false hv
              go_wp2_with fail
              go_quiet (first | (go_at_call 30; exact Calls.quiet_of (HL.out _)))
              go_wp2_with fail
              go_roundg (j - (c + 1))
              case measure => omega
              case rel => exact ⟨c + 1, j, ys, by omega, by omega, by omega, rfl, by go_num, rfl, HD.out _⟩
          · obtain rfl : j = i := by omega
            go_wp2_with fail
            go_loopg [17] (m - j) (fun g v wr => ∃ (t : Nat) (ys : List Int), j ≤ t ∧ t ≤ m ∧ g = t - j ∧ v = .int .i64 t ∧ S.At wr ys)
            case atStart => exact ⟨m, ys, by omega, by omega, rfl, by go_num, Hr.out⟩
            case round =>
              obtain ⟨t, ys, ht1, ht2, rfl, rfl, hh⟩ := hrel
              have Hs := Lib.hid hh
              clear hh Hr
              by_cases htl : j < t
              · have hcw0 := Hs.out.fam Hk.out Hz.out
                have hfw := Hs.out.famz Hz.out
                obtain ⟨G, hG⟩ : ∃ G : Nat → Int, ∀ t, G t = nth ys t := ⟨fun t => nth ys t, fun _ => rfl⟩
                have hcw : ∀ t, t < S.n → wr.cell? ⟨S.b, z + t, none⟩ = some (.int .i64 (G t)) := fun t ht => by rw [hG]; exact hcw0 t ht
                have HS : Hid (∃ zs, S.At (((wr.setCell ⟨S.b, z + t, none⟩ (.int .i64 (G (t - 1)))).setCell ⟨S.b, z + (t - 1), none⟩ (.int .i64 (G t)))).drew zs) := Lib.hid (by
                  rw [hG, hG]
                  obtain ⟨zs, hs⟩ := Hs.out.swapz Hk.out Hz.out t (t - 1) (by omega) (by omega)
                  exact ⟨zs, hs.drew⟩)
                have htn : t < S.n := by omega
                have htm : t - 1 < S.n := by omega
                clear hcw0 hG Hs
                go_wp2_with fail
                go_region
                clear hcw hfw
                go_wp2_with fail
                go_roundg ((t - 1) - j)
                case measure => omega
                case rel =>
                  obtain ⟨zs, hs⟩ := HS.out
                  exact ⟨t - 1, zs, by omega, by omega, rfl, by go_num, hs⟩
              · go_wp2_with fail
                refine bodyPost_ret (results_none rfl _ _ _) rfl ?_
                exact ⟨rfl, _, Hs.out⟩
      · have d1 : ((b : Int) - (m : Int) == 1) = false := by rw [beq_eq_false_iff_ne]; omega
        have d1' : ¬ ((b : Int) - (m : Int) = 1) := by omega
        clear c1 c2
        obtain ⟨mid, hmid⟩ : ∃ mid : Nat, mid = (a + b) / 2 := ⟨_, rfl⟩
        have hm1 : 2 * mid ≤ a + b := by omega
        have hm2 : a + b ≤ 2 * mid + 1 := by omega
        have hq : ((a : Int) + (b : Int)) / 2 = (mid : Int) := by omega
        clear hmid
        by_cases c3 : mid < m
        · have d2 : decide ((mid : Int) < (m : Int)) = true := decide_eq_true (by omega)
          go_enter Try.func38, Try.ntmps38
          go_wp2_with fail
          go_loopg [20, 21] (mid - (mid + m - b)) (fun g u v wr => ∃ (i j : Nat) (ys : List Int), mid + m - b ≤ i ∧ i ≤ j ∧ j ≤ mid ∧ g = j - i ∧ u = .int .i64 i ∧ v = .int .i64 j ∧ S.At wr ys)
          case atStart => exact ⟨mid + m - b, mid, xs, by omega, by omega, by omega, rfl, by go_num, by go_num, Hh.out⟩
          case round =>
            obtain ⟨i, j, ys, hai, hij, hjb, rfl, rfl, rfl, hh⟩ := hrel
            have Hr := Lib.hid hh
            clear hh Hh
            by_cases hlt : i < j
            · obtain ⟨c, hc⟩ : ∃ c : Nat, c = (i + j) / 2 := ⟨_, rfl⟩
              have hc1 : i ≤ c := by omega
              have hc2 : c < j := by omega
              have hq2 : ((i : Int) + (j : Int)) / 2 = (c : Int) := by omega
              have hcn : c < S.n := by omega
              clear hc
              have hcw0 := Hr.out.fam Hk.out Hz.out
              obtain ⟨G, hG⟩ : ∃ G : Nat → Int, ∀ t, G t = nth ys t := ⟨fun t => nth ys t, fun _ => rfl⟩
              have hcw : ∀ t, t < S.n → wr.cell? ⟨S.b, z + t, none⟩ = some (.int .i64 (G t)) := fun t ht => by rw [hG]; exact hcw0 t ht
              obtain ⟨cv, hcv⟩ := Hr.out.less Hk.out (mid + m - 1 - c) (c) (by omega) (by omega)
              rw [← hG, ← hG] at hcv
              have HL := Lib.hid hcv
              have HD : Hid (∀ q, S.At (wr.drewN q) ys) := Lib.hid fun q => Hr.out.drewN q
              clear hcv hcw0 hG Hr
              by_cases hv : cv < 0
              · have d5 : decide (cv < 0) = true := decide_eq_true hv
                go_wp2_with fail
                go_quiet (first | (go_at_call 30; exact Calls.quiet_of (HL.out _)))
                go_wp2_with fail
                go_roundg (c - i)
                case measure => omega
                case rel => exact ⟨i, c, ys, by omega, by omega, by omega, rfl, rfl, by go_num, HD.out _⟩
              · have d5 : decide (cv < 0) = false := decide_eq_false hv
                go_wp2_with fail
                go_quiet (first | (go_at_call 30; exact Calls.quiet_of (HL.out _)))
                go_wp2_with fail
                go_roundg (j - (c + 1))
                case measure => omega
                case rel => exact ⟨c + 1, j, ys, by omega, by omega, by omega, rfl, by go_num, rfl, HD.out _⟩
            · obtain rfl : j = i := by omega
              obtain ⟨en, hen⟩ : ∃ en : Nat, en + j = mid + m := ⟨mid + m - j, by omega⟩
              have he1 : (mid : Int) + (m : Int) - (j : Int) = (en : Int) := by omega
              have Hw : Hid (∃ ys, S.At wr ys) := Lib.hid ⟨_, Hr.out⟩
              clear Hr
              by_cases q0 : j < m ∧ m < en
              · have g0a : decide ((j : Int) < (m : Int)) = true := decide_eq_true (by omega)
                have g0b : decide ((m : Int) < (en : Int)) = true := decide_eq_true (by omega)
                have HC : Hid (Calls Try.prog 50 #[.slice (some ⟨S.b, z, none⟩) S.n S.n, .int .i64 (j : Int), .int .i64 (m : Int), .int .i64 (en : Int), .func (.func 30) #[] #[.pointer (some ⟨S.p, 0, none⟩)]] wr fun e w' => e = .returned (.tuple #[]) ∧ ∃ ys, S.At w' ys) := Lib.hid (by
                  obtain ⟨ys, hs⟩ := Hw.out
                  exact HR.out wr ys j m en hs (by omega) (by omega) (by omega))
                clear Hw
                go_wp2_with fail
                all_goals
                  refine HC.out.mono ?_
                  rintro e w1 ⟨rfl, hw⟩
                  have Hw := Lib.hid hw
                  clear hw HC
                  by_cases q1 : a < j ∧ j < mid
                  · have g1a : decide ((a : Int) < (j : Int)) = true := decide_eq_true (by omega)
                    have g1b : decide ((j : Int) < (mid : Int)) = true := decide_eq_true (by omega)
                    have HC : Hid (Calls Try.prog 38 #[.slice (some ⟨S.b, z, none⟩) S.n S.n, .int .i64 (a : Int), .int .i64 (j : Int), .int .i64 (mid : Int), .func (.func 30) #[] #[.pointer (some ⟨S.p, 0, none⟩)]] w1 fun e w' => e = .returned (.tuple #[]) ∧ ∃ ys, S.At w' ys) := Lib.hid (by
                      obtain ⟨ys, hs⟩ := Hw.out
                      exact IH.out w1 ys a j mid hs (by omega) (by omega) (by omega) (by omega))
                    clear Hw
                    go_wp2_with fail
                    all_goals
                      refine HC.out.mono ?_
                      rintro e w2 ⟨rfl, hw⟩
                      have Hw := Lib.hid hw
                      clear hw HC
                      by_cases q2 : mid < en ∧ en < b
                      · have g2a : decide ((mid : Int) < (en : Int)) = true := decide_eq_true (by omega)
                        have g2b : decide ((en : Int) < (b : Int)) = true := decide_eq_true (by omega)
                        have HC : Hid (Calls Try.prog 38 #[.slice (some ⟨S.b, z, none⟩) S.n S.n, .int .i64 (mid : Int), .int .i64 (en : Int), .int .i64 (b : Int), .func (.func 30) #[] #[.pointer (some ⟨S.p, 0, none⟩)]] w2 fun e w' => e = .returned (.tuple #[]) ∧ ∃ ys, S.At w' ys) := Lib.hid (by
                          obtain ⟨ys, hs⟩ := Hw.out
                          exact IH.out w2 ys mid en b hs (by omega) (by omega) (by omega) (by omega))
                        clear Hw
                        go_wp2_with fail
                        all_goals
                          refine HC.out.mono ?_
                          rintro e w3 ⟨rfl, hw⟩
                          have Hw := Lib.hid hw
                          clear hw HC
                          (try go_wp2_with fail)
                          all_goals
                            refine bodyPost_end (results_none rfl _ _ _) rfl ?_
                            exact ⟨rfl, Hw.out⟩
                      · by_cases q2b : mid < en
                        · have g2a : decide ((mid : Int) < (en : Int)) = true := decide_eq_true (by omega)
                          have g2b : decide ((en : Int) < (b : Int)) = false := decide_eq_false (by omega)
                          (try go_wp2_with fail)
                          (try go_wp2_with fail)
                          all_goals
                            refine bodyPost_end (results_none rfl _ _ _) rfl ?_
                            exact ⟨rfl, Hw.out⟩
                        · have g2a : decide ((mid : Int) < (en : Int)) = false := decide_eq_false (by omega)
                          (try go_wp2_with fail)
                          (try go_wp2_with fail)
                          all_goals
                            refine bodyPost_end (results_none rfl _ _ _) rfl ?_
                            exact ⟨rfl, Hw.out⟩
                  · by_cases q1b : a < j
                    · have g1a : decide ((a : Int) < (j : Int)) = true := decide_eq_true (by omega)
                      have g1b : decide ((j : Int) < (mid : Int)) = false := decide_eq_false (by omega)
                      by_cases q2 : mid < en ∧ en < b
                      · have g2a : decide ((mid : Int) < (en : Int)) = true := decide_eq_true (by omega)
                        have g2b : decide ((en : Int) < (b : Int)) = true := decide_eq_true (by omega)
                        have HC : Hid (Calls Try.prog 38 #[.slice (some ⟨S.b, z, none⟩) S.n S.n, .int .i64 (mid : Int), .int .i64 (en : Int), .int .i64 (b : Int), .func (.func 30) #[] #[.pointer (some ⟨S.p, 0, none⟩)]] w1 fun e w' => e = .returned (.tuple #[]) ∧ ∃ ys, S.At w' ys) := Lib.hid (by
                          obtain ⟨ys, hs⟩ := Hw.out
                          exact IH.out w1 ys mid en b hs (by omega) (by omega) (by omega) (by omega))
                        clear Hw
                        go_wp2_with fail
                        all_goals
                          refine HC.out.mono ?_
                          rintro e w3 ⟨rfl, hw⟩
                          have Hw := Lib.hid hw
                          clear hw HC
                          (try go_wp2_with fail)
                          all_goals
                            refine bodyPost_end (results_none rfl _ _ _) rfl ?_
                            exact ⟨rfl, Hw.out⟩
                      · by_cases q2b : mid < en
                        · have g2a : decide ((mid : Int) < (en : Int)) = true := decide_eq_true (by omega)
                          have g2b : decide ((en : Int) < (b : Int)) = false := decide_eq_false (by omega)
                          (try go_wp2_with fail)
                          (try go_wp2_with fail)
                          all_goals
                            refine bodyPost_end (results_none rfl _ _ _) rfl ?_
                            exact ⟨rfl, Hw.out⟩
                        · have g2a : decide ((mid : Int) < (en : Int)) = false := decide_eq_false (by omega)
                          (try go_wp2_with fail)
                          (try go_wp2_with fail)
                          all_goals
                            refine bodyPost_end (results_none rfl _ _ _) rfl ?_
                            exact ⟨rfl, Hw.out⟩
                    · have g1a : decide ((a : Int) < (j : Int)) = false := decide_eq_false (by omega)
                      by_cases q2 : mid < en ∧ en < b
                      · have g2a : decide ((mid : Int) < (en : Int)) = true := decide_eq_true (by omega)
                        have g2b : decide ((en : Int) < (b : Int)) = true := decide_eq_true (by omega)
                        have HC : Hid (Calls Try.prog 38 #[.slice (some ⟨S.b, z, none⟩) S.n S.n, .int .i64 (mid : Int), .int .i64 (en : Int), .int .i64 (b : Int), .func (.func 30) #[] #[.pointer (some ⟨S.p, 0, none⟩)]] w1 fun e w' => e = .returned (.tuple #[]) ∧ ∃ ys, S.At w' ys) := Lib.hid (by
                          obtain ⟨ys, hs⟩ := Hw.out
                          exact IH.out w1 ys mid en b hs (by omega) (by omega) (by omega) (by omega))
                        clear Hw
                        go_wp2_with fail
                        all_goals
                          refine HC.out.mono ?_
                          rintro e w3 ⟨rfl, hw⟩
                          have Hw := Lib.hid hw
                          clear hw HC
                          (try go_wp2_with fail)
                          all_goals
                            refine bodyPost_end (results_none rfl _ _ _) rfl ?_
                            exact ⟨rfl, Hw.out⟩
                      · by_cases q2b : mid < en
                        · have g2a : decide ((mid : Int) < (en : Int)) = true := decide_eq_true (by omega)
                          have g2b : decide ((en : Int) < (b : Int)) = false := decide_eq_false (by omega)
                          (try go_wp2_with fail)
                          (try go_wp2_with fail)
                          all_goals
                            refine bodyPost_end (results_none rfl _ _ _) rfl ?_
                            exact ⟨rfl, Hw.out⟩
                        · have g2a : decide ((mid : Int) < (en : Int)) = false := decide_eq_false (by omega)
                          (try go_wp2_with fail)
                          (try go_wp2_with fail)
                          all_goals
                            refine bodyPost_end (results_none rfl _ _ _) rfl ?_
                            exact ⟨rfl, Hw.out⟩
              · by_cases q0b : j < m
                · have g0a : decide ((j : Int) < (m : Int)) = true := decide_eq_true (by omega)
                  have g0b : decide ((m : Int) < (en : Int)) = false := decide_eq_false (by omega)
                  by_cases q1 : a < j ∧ j < mid
                  · have g1a : decide ((a : Int) < (j : Int)) = true := decide_eq_true (by omega)
                    have g1b : decide ((j : Int) < (mid : Int)) = true := decide_eq_true (by omega)
                    have HC : Hid (Calls Try.prog 38 #[.slice (some ⟨S.b, z, none⟩) S.n S.n, .int .i64 (a : Int), .int .i64 (j : Int), .int .i64 (mid : Int), .func (.func 30) #[] #[.pointer (some ⟨S.p, 0, none⟩)]] wr fun e w' => e = .returned (.tuple #[]) ∧ ∃ ys, S.At w' ys) := Lib.hid (by
                      obtain ⟨ys, hs⟩ := Hw.out
                      exact IH.out wr ys a j mid hs (by omega) (by omega) (by omega) (by omega))
                    clear Hw
                    go_wp2_with fail
                    all_goals
                      refine HC.out.mono ?_
                      rintro e w2 ⟨rfl, hw⟩
                      have Hw := Lib.hid hw
                      clear hw HC
                      by_cases q2 : mid < en ∧ en < b
                      · have g2a : decide ((mid : Int) < (en : Int)) = true := decide_eq_true (by omega)
                        have g2b : decide ((en : Int) < (b : Int)) = true := decide_eq_true (by omega)
                        have HC : Hid (Calls Try.prog 38 #[.slice (some ⟨S.b, z, none⟩) S.n S.n, .int .i64 (mid : Int), .int .i64 (en : Int), .int .i64 (b : Int), .func (.func 30) #[] #[.pointer (some ⟨S.p, 0, none⟩)]] w2 fun e w' => e = .returned (.tuple #[]) ∧ ∃ ys, S.At w' ys) := Lib.hid (by
                          obtain ⟨ys, hs⟩ := Hw.out
                          exact IH.out w2 ys mid en b hs (by omega) (by omega) (by omega) (by omega))
                        clear Hw
                        go_wp2_with fail
                        all_goals
                          refine HC.out.mono ?_
                          rintro e w3 ⟨rfl, hw⟩
                          have Hw := Lib.hid hw
                          clear hw HC
                          (try go_wp2_with fail)
                          all_goals
                            refine bodyPost_end (results_none rfl _ _ _) rfl ?_
                            exact ⟨rfl, Hw.out⟩
                      · by_cases q2b : mid < en
                        · have g2a : decide ((mid : Int) < (en : Int)) = true := decide_eq_true (by omega)
                          have g2b : decide ((en : Int) < (b : Int)) = false := decide_eq_false (by omega)
                          (try go_wp2_with fail)
                          (try go_wp2_with fail)
                          all_goals
                            refine bodyPost_end (results_none rfl _ _ _) rfl ?_
                            exact ⟨rfl, Hw.out⟩
                        · have g2a : decide ((mid : Int) < (en : Int)) = false := decide_eq_false (by omega)
                          (try go_wp2_with fail)
                          (try go_wp2_with fail)
                          all_goals
                            refine bodyPost_end (results_none rfl _ _ _) rfl ?_
                            exact ⟨rfl, Hw.out⟩
                  · by_cases q1b : a < j
                    · have g1a : decide ((a : Int) < (j : Int)) = true := decide_eq_true (by omega)
                      have g1b : decide ((j : Int) < (mid : Int)) = false := decide_eq_false (by omega)
                      by_cases q2 : mid < en ∧ en < b
                      · have g2a : decide ((mid : Int) < (en : Int)) = true := decide_eq_true (by omega)
                        have g2b : decide ((en : Int) < (b : Int)) = true := decide_eq_true (by omega)
                        have HC : Hid (Calls Try.prog 38 #[.slice (some ⟨S.b, z, none⟩) S.n S.n, .int .i64 (mid : Int), .int .i64 (en : Int), .int .i64 (b : Int), .func (.func 30) #[] #[.pointer (some ⟨S.p, 0, none⟩)]] wr fun e w' => e = .returned (.tuple #[]) ∧ ∃ ys, S.At w' ys) := Lib.hid (by
                          obtain ⟨ys, hs⟩ := Hw.out
                          exact IH.out wr ys mid en b hs (by omega) (by omega) (by omega) (by omega))
                        clear Hw
                        go_wp2_with fail
                        all_goals
                          refine HC.out.mono ?_
                          rintro e w3 ⟨rfl, hw⟩
                          have Hw := Lib.hid hw
                          clear hw HC
                          (try go_wp2_with fail)
                          all_goals
                            refine bodyPost_end (results_none rfl _ _ _) rfl ?_
                            exact ⟨rfl, Hw.out⟩
                      · by_cases q2b : mid < en
                        · have g2a : decide ((mid : Int) < (en : Int)) = true := decide_eq_true (by omega)
                          have g2b : decide ((en : Int) < (b : Int)) = false := decide_eq_false (by omega)
                          (try go_wp2_with fail)
                          (try go_wp2_with fail)
                          all_goals
                            refine bodyPost_end (results_none rfl _ _ _) rfl ?_
                            exact ⟨rfl, Hw.out⟩
                        · have g2a : decide ((mid : Int) < (en : Int)) = false := decide_eq_false (by omega)
                          (try go_wp2_with fail)
                          (try go_wp2_with fail)
                          all_goals
                            refine bodyPost_end (results_none rfl _ _ _) rfl ?_
                            exact ⟨rfl, Hw.out⟩
                    · have g1a : decide ((a : Int) < (j : Int)) = false := decide_eq_false (by omega)
                      by_cases q2 : mid < en ∧ en < b
                      · have g2a : decide ((mid : Int) < (en : Int)) = true := decide_eq_true (by omega)
                        have g2b : decide ((en : Int) < (b : Int)) = true := decide_eq_true (by omega)
                        have HC : Hid (Calls Try.prog 38 #[.slice (some ⟨S.b, z, none⟩) S.n S.n, .int .i64 (mid : Int), .int .i64 (en : Int), .int .i64 (b : Int), .func (.func 30) #[] #[.pointer (some ⟨S.p, 0, none⟩)]] wr fun e w' => e = .returned (.tuple #[]) ∧ ∃ ys, S.At w' ys) := Lib.hid (by
                          obtain ⟨ys, hs⟩ := Hw.out
                          exact IH.out wr ys mid en b hs (by omega) (by omega) (by omega) (by omega))
                        clear Hw
                        go_wp2_with fail
                        all_goals
                          refine HC.out.mono ?_
                          rintro e w3 ⟨rfl, hw⟩
                          have Hw := Lib.hid hw
                          clear hw HC
                          (try go_wp2_with fail)
                          all_goals
                            refine bodyPost_end (results_none rfl _ _ _) rfl ?_
                            exact ⟨rfl, Hw.out⟩
                      · by_cases q2b : mid < en
                        · have g2a : decide ((mid : Int) < (en : Int)) = true := decide_eq_true (by omega)
                          have g2b : decide ((en : Int) < (b : Int)) = false := decide_eq_false (by omega)
                          (try go_wp2_with fail)
                          (try go_wp2_with fail)
                          all_goals
                            refine bodyPost_end (results_none rfl _ _ _) rfl ?_
                            exact ⟨rfl, Hw.out⟩
                        · have g2a : decide ((mid : Int) < (en : Int)) = false := decide_eq_false (by omega)
                          (try go_wp2_with fail)
                          (try go_wp2_with fail)
                          all_goals
                            refine bodyPost_end (results_none rfl _ _ _) rfl ?_
                            exact ⟨rfl, Hw.out⟩
                · have g0a : decide ((j : Int) < (m : Int)) = false := decide_eq_false (by omega)
                  by_cases q1 : a < j ∧ j < mid
                  · have g1a : decide ((a : Int) < (j : Int)) = true := decide_eq_true (by omega)
                    have g1b : decide ((j : Int) < (mid : Int)) = true := decide_eq_true (by omega)
                    have HC : Hid (Calls Try.prog 38 #[.slice (some ⟨S.b, z, none⟩) S.n S.n, .int .i64 (a : Int), .int .i64 (j : Int), .int .i64 (mid : Int), .func (.func 30) #[] #[.pointer (some ⟨S.p, 0, none⟩)]] wr fun e w' => e = .returned (.tuple #[]) ∧ ∃ ys, S.At w' ys) := Lib.hid (by
                      obtain ⟨ys, hs⟩ := Hw.out
                      exact IH.out wr ys a j mid hs (by omega) (by omega) (by omega) (by omega))
                    clear Hw
                    go_wp2_with fail
                    all_goals
                      refine HC.out.mono ?_
                      rintro e w2 ⟨rfl, hw⟩
                      have Hw := Lib.hid hw
                      clear hw HC
                      by_cases q2 : mid < en ∧ en < b
                      · have g2a : decide ((mid : Int) < (en : Int)) = true := decide_eq_true (by omega)
                        have g2b : decide ((en : Int) < (b : Int)) = true := decide_eq_true (by omega)
                        have HC : Hid (Calls Try.prog 38 #[.slice (some ⟨S.b, z, none⟩) S.n S.n, .int .i64 (mid : Int), .int .i64 (en : Int), .int .i64 (b : Int), .func (.func 30) #[] #[.pointer (some ⟨S.p, 0, none⟩)]] w2 fun e w' => e = .returned (.tuple #[]) ∧ ∃ ys, S.At w' ys) := Lib.hid (by
                          obtain ⟨ys, hs⟩ := Hw.out
                          exact IH.out w2 ys mid en b hs (by omega) (by omega) (by omega) (by omega))
                        clear Hw
                        go_wp2_with fail
                        all_goals
                          refine HC.out.mono ?_
                          rintro e w3 ⟨rfl, hw⟩
                          have Hw := Lib.hid hw
                          clear hw HC
                          (try go_wp2_with fail)
                          all_goals
                            refine bodyPost_end (results_none rfl _ _ _) rfl ?_
                            exact ⟨rfl, Hw.out⟩
                      · by_cases q2b : mid < en
                        · have g2a : decide ((mid : Int) < (en : Int)) = true := decide_eq_true (by omega)
                          have g2b : decide ((en : Int) < (b : Int)) = false := decide_eq_false (by omega)
                          (try go_wp2_with fail)
                          (try go_wp2_with fail)
                          all_goals
                            refine bodyPost_end (results_none rfl _ _ _) rfl ?_
                            exact ⟨rfl, Hw.out⟩
                        · have g2a : decide ((mid : Int) < (en : Int)) = false := decide_eq_false (by omega)
                          (try go_wp2_with fail)
                          (try go_wp2_with fail)
                          all_goals
                            refine bodyPost_end (results_none rfl _ _ _) rfl ?_
                            exact ⟨rfl, Hw.out⟩
                  · by_cases q1b : a < j
                    · have g1a : decide ((a : Int) < (j : Int)) = true := decide_eq_true (by omega)
                      have g1b : decide ((j : Int) < (mid : Int)) = false := decide_eq_false (by omega)
                      by_cases q2 : mid < en ∧ en < b
                      · have g2a : decide ((mid : Int) < (en : Int)) = true := decide_eq_true (by omega)
                        have g2b : decide ((en : Int) < (b : Int)) = true := decide_eq_true (by omega)
                        have HC : Hid (Calls Try.prog 38 #[.slice (some ⟨S.b, z, none⟩) S.n S.n, .int .i64 (mid : Int), .int .i64 (en : Int), .int .i64 (b : Int), .func (.func 30) #[] #[.pointer (some ⟨S.p, 0, none⟩)]] wr fun e w' => e = .returned (.tuple #[]) ∧ ∃ ys, S.At w' ys) := Lib.hid (by
                          obtain ⟨ys, hs⟩ := Hw.out
                          exact IH.out wr ys mid en b hs (by omega) (by omega) (by omega) (by omega))
                        clear Hw
                        go_wp2_with fail
                        all_goals
                          refine HC.out.mono ?_
                          rintro e w3 ⟨rfl, hw⟩
                          have Hw := Lib.hid hw
                          clear hw HC
                          (try go_wp2_with fail)
                          all_goals
                            refine bodyPost_end (results_none rfl _ _ _) rfl ?_
                            exact ⟨rfl, Hw.out⟩
                      · by_cases q2b : mid < en
                        · have g2a : decide ((mid : Int) < (en : Int)) = true := decide_eq_true (by omega)
                          have g2b : decide ((en : Int) < (b : Int)) = false := decide_eq_false (by omega)
                          (try go_wp2_with fail)
                          (try go_wp2_with fail)
                          all_goals
                            refine bodyPost_end (results_none rfl _ _ _) rfl ?_
                            exact ⟨rfl, Hw.out⟩
                        · have g2a : decide ((mid : Int) < (en : Int)) = false := decide_eq_false (by omega)
                          (try go_wp2_with fail)
                          (try go_wp2_with fail)
                          all_goals
                            refine bodyPost_end (results_none rfl _ _ _) rfl ?_
                            exact ⟨rfl, Hw.out⟩
                    · have g1a : decide ((a : Int) < (j : Int)) = false := decide_eq_false (by omega)
                      by_cases q2 : mid < en ∧ en < b
                      · have g2a : decide ((mid : Int) < (en : Int)) = true := decide_eq_true (by omega)
                        have g2b : decide ((en : Int) < (b : Int)) = true := decide_eq_true (by omega)
                        have HC : Hid (Calls Try.prog 38 #[.slice (some ⟨S.b, z, none⟩) S.n S.n, .int .i64 (mid : Int), .int .i64 (en : Int), .int .i64 (b : Int), .func (.func 30) #[] #[.pointer (some ⟨S.p, 0, none⟩)]] wr fun e w' => e = .returned (.tuple #[]) ∧ ∃ ys, S.At w' ys) := Lib.hid (by
                          obtain ⟨ys, hs⟩ := Hw.out
                          exact IH.out wr ys mid en b hs (by omega) (by omega) (by omega) (by omega))
                        clear Hw
                        go_wp2_with fail
                        all_goals
                          refine HC.out.mono ?_
                          rintro e w3 ⟨rfl, hw⟩
                          have Hw := Lib.hid hw
                          clear hw HC
                          (try go_wp2_with fail)
                          all_goals
                            refine bodyPost_end (results_none rfl _ _ _) rfl ?_
                            exact ⟨rfl, Hw.out⟩
                      · by_cases q2b : mid < en
                        · have g2a : decide ((mid : Int) < (en : Int)) = true := decide_eq_true (by omega)
                          have g2b : decide ((en : Int) < (b : Int)) = false := decide_eq_false (by omega)
                          (try go_wp2_with fail)
                          (try go_wp2_with fail)
                          all_goals
                            refine bodyPost_end (results_none rfl _ _ _) rfl ?_
                            exact ⟨rfl, Hw.out⟩
                        · have g2a : decide ((mid : Int) < (en : Int)) = false := decide_eq_false (by omega)
                          (try go_wp2_with fail)
                          (try go_wp2_with fail)
                          all_goals
                            refine bodyPost_end (results_none rfl _ _ _) rfl ?_
                            exact ⟨rfl, Hw.out⟩
        · have d2 : decide ((mid : Int) < (m : Int)) = false := decide_eq_false (by omega)
          go_enter Try.func38, Try.ntmps38
          go_wp2_with fail
          go_loopg [20, 21] (m - (a)) (fun g u v wr => ∃ (i j : Nat) (ys : List Int), a ≤ i ∧ i ≤ j ∧ j ≤ m ∧ g = j - i ∧ u = .int .i64 i ∧ v = .int .i64 j ∧ S.At wr ys)
          case atStart => exact ⟨a, m, xs, by omega, by omega, by omega, rfl, by go_num, by go_num, Hh.out⟩
          case round =>
            obtain ⟨i, j, ys, hai, hij, hjb, rfl, rfl, rfl, hh⟩ := hrel
            have Hr := Lib.hid hh
            clear hh Hh
            by_cases hlt : i < j
            · obtain ⟨c, hc⟩ : ∃ c : Nat, c = (i + j) / 2 := ⟨_, rfl⟩
              have hc1 : i ≤ c := by omega
              have hc2 : c < j := by omega
              have hq2 : ((i : Int) + (j : Int)) / 2 = (c : Int) := by omega
              have hcn : c < S.n := by omega
              clear hc
              have hcw0 := Hr.out.fam Hk.out Hz.out
              obtain ⟨G, hG⟩ : ∃ G : Nat → Int, ∀ t, G t = nth ys t := ⟨fun t => nth ys t, fun _ => rfl⟩
              have hcw : ∀ t, t < S.n → wr.cell? ⟨S.b, z + t, none⟩ = some (.int .i64 (G t)) := fun t ht => by rw [hG]; exact hcw0 t ht
              obtain ⟨cv, hcv⟩ := Hr.out.less Hk.out (mid + m - 1 - c) (c) (by omega) (by omega)
              rw [← hG, ← hG] at hcv
              have HL := Lib.hid hcv
              have HD : Hid (∀ q, S.At (wr.drewN q) ys) := Lib.hid fun q => Hr.out.drewN q
              clear hcv hcw0 hG Hr
              by_cases hv : cv < 0
              · have d5 : decide (cv < 0) = true := decide_eq_true hv
                go_wp2_with fail
                go_quiet (first | (go_at_call 30; exact Calls.quiet_of (HL.out _)))
                go_wp2_with fail
                go_roundg (c - i)
                case measure => omega
                case rel => exact ⟨i, c, ys, by omega, by omega, by omega, rfl, rfl, by go_num, HD.out _⟩
              · have d5 : decide (cv < 0) = false := decide_eq_false hv
                go_wp2_with fail
                go_quiet (first | (go_at_call 30; exact Calls.quiet_of (HL.out _)))
                go_wp2_with fail
                go_roundg (j - (c + 1))
                case measure => omega
                case rel => exact ⟨c + 1, j, ys, by omega, by omega, by omega, rfl, by go_num, rfl, HD.out _⟩
            · obtain rfl : j = i := by omega
              obtain ⟨en, hen⟩ : ∃ en : Nat, en + j = mid + m := ⟨mid + m - j, by omega⟩
              have he1 : (mid : Int) + (m : Int) - (j : Int) = (en : Int) := by omega
              have Hw : Hid (∃ ys, S.At wr ys) := Lib.hid ⟨_, Hr.out⟩
              clear Hr
              by_cases q0 : j < m ∧ m < en
              · have g0a : decide ((j : Int) < (m : Int)) = true := decide_eq_true (by omega)
                have g0b : decide ((m : Int) < (en : Int)) = true := decide_eq_true (by omega)
                have HC : Hid (Calls Try.prog 50 #[.slice (some ⟨S.b, z, none⟩) S.n S.n, .int .i64 (j : Int), .int .i64 (m : Int), .int .i64 (en : Int), .func (.func 30) #[] #[.pointer (some ⟨S.p, 0, none⟩)]] wr fun e w' => e = .returned (.tuple #[]) ∧ ∃ ys, S.At w' ys) := Lib.hid (by
                  obtain ⟨ys, hs⟩ := Hw.out
                  exact HR.out wr ys j m en hs (by omega) (by omega) (by omega))
                clear Hw
                go_wp2_with fail
                all_goals
                  refine HC.out.mono ?_
                  rintro e w1 ⟨rfl, hw⟩
                  have Hw := Lib.hid hw
                  clear hw HC
                  by_cases q1 : a < j ∧ j < mid
                  · have g1a : decide ((a : Int) < (j : Int)) = true := decide_eq_true (by omega)
                    have g1b : decide ((j : Int) < (mid : Int)) = true := decide_eq_true (by omega)
                    have HC : Hid (Calls Try.prog 38 #[.slice (some ⟨S.b, z, none⟩) S.n S.n, .int .i64 (a : Int), .int .i64 (j : Int), .int .i64 (mid : Int), .func (.func 30) #[] #[.pointer (some ⟨S.p, 0, none⟩)]] w1 fun e w' => e = .returned (.tuple #[]) ∧ ∃ ys, S.At w' ys) := Lib.hid (by
                      obtain ⟨ys, hs⟩ := Hw.out
                      exact IH.out w1 ys a j mid hs (by omega) (by omega) (by omega) (by omega))
                    clear Hw
                    go_wp2_with fail
                    all_goals
                      refine HC.out.mono ?_
                      rintro e w2 ⟨rfl, hw⟩
                      have Hw := Lib.hid hw
                      clear hw HC
                      by_cases q2 : mid < en ∧ en < b
                      · have g2a : decide ((mid : Int) < (en : Int)) = true := decide_eq_true (by omega)
                        have g2b : decide ((en : Int) < (b : Int)) = true := decide_eq_true (by omega)
                        have HC : Hid (Calls Try.prog 38 #[.slice (some ⟨S.b, z, none⟩) S.n S.n, .int .i64 (mid : Int), .int .i64 (en : Int), .int .i64 (b : Int), .func (.func 30) #[] #[.pointer (some ⟨S.p, 0, none⟩)]] w2 fun e w' => e = .returned (.tuple #[]) ∧ ∃ ys, S.At w' ys) := Lib.hid (by
                          obtain ⟨ys, hs⟩ := Hw.out
                          exact IH.out w2 ys mid en b hs (by omega) (by omega) (by omega) (by omega))
                        clear Hw
                        go_wp2_with fail
                        all_goals
                          refine HC.out.mono ?_
                          rintro e w3 ⟨rfl, hw⟩
                          have Hw := Lib.hid hw
                          clear hw HC
                          (try go_wp2_with fail)
                          all_goals
                            refine bodyPost_end (results_none rfl _ _ _) rfl ?_
                            exact ⟨rfl, Hw.out⟩
                      · by_cases q2b : mid < en
                        · have g2a : decide ((mid : Int) < (en : Int)) = true := decide_eq_true (by omega)
                          have g2b : decide ((en : Int) < (b : Int)) = false := decide_eq_false (by omega)
                          (try go_wp2_with fail)
                          (try go_wp2_with fail)
                          all_goals
                            refine bodyPost_end (results_none rfl _ _ _) rfl ?_
                            exact ⟨rfl, Hw.out⟩
                        · have g2a : decide ((mid : Int) < (en : Int)) = false := decide_eq_false (by omega)
                          (try go_wp2_with fail)
                          (try go_wp2_with fail)
                          all_goals
                            refine bodyPost_end (results_none rfl _ _ _) rfl ?_
                            exact ⟨rfl, Hw.out⟩
                  · by_cases q1b : a < j
                    · have g1a : decide ((a : Int) < (j : Int)) = true := decide_eq_true (by omega)
                      have g1b : decide ((j : Int) < (mid : Int)) = false := decide_eq_false (by omega)
                      by_cases q2 : mid < en ∧ en < b
                      · have g2a : decide ((mid : Int) < (en : Int)) = true := decide_eq_true (by omega)
                        have g2b : decide ((en : Int) < (b : Int)) = true := decide_eq_true (by omega)
                        have HC : Hid (Calls Try.prog 38 #[.slice (some ⟨S.b, z, none⟩) S.n S.n, .int .i64 (mid : Int), .int .i64 (en : Int), .int .i64 (b : Int), .func (.func 30) #[] #[.pointer (some ⟨S.p, 0, none⟩)]] w1 fun e w' => e = .returned (.tuple #[]) ∧ ∃ ys, S.At w' ys) := Lib.hid (by
                          obtain ⟨ys, hs⟩ := Hw.out
                          exact IH.out w1 ys mid en b hs (by omega) (by omega) (by omega) (by omega))
                        clear Hw
                        go_wp2_with fail
                        all_goals
                          refine HC.out.mono ?_
                          rintro e w3 ⟨rfl, hw⟩
                          have Hw := Lib.hid hw
                          clear hw HC
                          (try go_wp2_with fail)
                          all_goals
                            refine bodyPost_end (results_none rfl _ _ _) rfl ?_
                            exact ⟨rfl, Hw.out⟩
                      · by_cases q2b : mid < en
                        · have g2a : decide ((mid : Int) < (en : Int)) = true := decide_eq_true (by omega)
                          have g2b : decide ((en : Int) < (b : Int)) = false := decide_eq_false (by omega)
                          (try go_wp2_with fail)
                          (try go_wp2_with fail)
                          all_goals
                            refine bodyPost_end (results_none rfl _ _ _) rfl ?_
                            exact ⟨rfl, Hw.out⟩
                        · have g2a : decide ((mid : Int) < (en : Int)) = false := decide_eq_false (by omega)
                          (try go_wp2_with fail)
                          (try go_wp2_with fail)
                          all_goals
                            refine bodyPost_end (results_none rfl _ _ _) rfl ?_
                            exact ⟨rfl, Hw.out⟩
                    · have g1a : decide ((a : Int) < (j : Int)) = false := decide_eq_false (by omega)
                      by_cases q2 : mid < en ∧ en < b
                      · have g2a : decide ((mid : Int) < (en : Int)) = true := decide_eq_true (by omega)
                        have g2b : decide ((en : Int) < (b : Int)) = true := decide_eq_true (by omega)
                        have HC : Hid (Calls Try.prog 38 #[.slice (some ⟨S.b, z, none⟩) S.n S.n, .int .i64 (mid : Int), .int .i64 (en : Int), .int .i64 (b : Int), .func (.func 30) #[] #[.pointer (some ⟨S.p, 0, none⟩)]] w1 fun e w' => e = .returned (.tuple #[]) ∧ ∃ ys, S.At w' ys) := Lib.hid (by
                          obtain ⟨ys, hs⟩ := Hw.out
                          exact IH.out w1 ys mid en b hs (by omega) (by omega) (by omega) (by omega))
                        clear Hw
                        go_wp2_with fail
                        all_goals
                          refine HC.out.mono ?_
                          rintro e w3 ⟨rfl, hw⟩
                          have Hw := Lib.hid hw
                          clear hw HC
                          (try go_wp2_with fail)
                          all_goals
                            refine bodyPost_end (results_none rfl _ _ _) rfl ?_
                            exact ⟨rfl, Hw.out⟩
                      · by_cases q2b : mid < en
                        · have g2a : decide ((mid : Int) < (en : Int)) = true := decide_eq_true (by omega)
                          have g2b : decide ((en : Int) < (b : Int)) = false := decide_eq_false (by omega)
                          (try go_wp2_with fail)
                          (try go_wp2_with fail)
                          all_goals
                            refine bodyPost_end (results_none rfl _ _ _) rfl ?_
                            exact ⟨rfl, Hw.out⟩
                        · have g2a : decide ((mid : Int) < (en : Int)) = false := decide_eq_false (by omega)
                          (try go_wp2_with fail)
                          (try go_wp2_with fail)
                          all_goals
                            refine bodyPost_end (results_none rfl _ _ _) rfl ?_
                            exact ⟨rfl, Hw.out⟩
              · by_cases q0b : j < m
                · have g0a : decide ((j : Int) < (m : Int)) = true := decide_eq_true (by omega)
                  have g0b : decide ((m : Int) < (en : Int)) = false := decide_eq_false (by omega)
                  by_cases q1 : a < j ∧ j < mid
                  · have g1a : decide ((a : Int) < (j : Int)) = true := decide_eq_true (by omega)
                    have g1b : decide ((j : Int) < (mid : Int)) = true := decide_eq_true (by omega)
                    have HC : Hid (Calls Try.prog 38 #[.slice (some ⟨S.b, z, none⟩) S.n S.n, .int .i64 (a : Int), .int .i64 (j : Int), .int .i64 (mid : Int), .func (.func 30) #[] #[.pointer (some ⟨S.p, 0, none⟩)]] wr fun e w' => e = .returned (.tuple #[]) ∧ ∃ ys, S.At w' ys) := Lib.hid (by
                      obtain ⟨ys, hs⟩ := Hw.out
                      exact IH.out wr ys a j mid hs (by omega) (by omega) (by omega) (by omega))
                    clear Hw
                    go_wp2_with fail
                    all_goals
                      refine HC.out.mono ?_
                      rintro e w2 ⟨rfl, hw⟩
                      have Hw := Lib.hid hw
                      clear hw HC
                      by_cases q2 : mid < en ∧ en < b
                      · have g2a : decide ((mid : Int) < (en : Int)) = true := decide_eq_true (by omega)
                        have g2b : decide ((en : Int) < (b : Int)) = true := decide_eq_true (by omega)
                        have HC : Hid (Calls Try.prog 38 #[.slice (some ⟨S.b, z, none⟩) S.n S.n, .int .i64 (mid : Int), .int .i64 (en : Int), .int .i64 (b : Int), .func (.func 30) #[] #[.pointer (some ⟨S.p, 0, none⟩)]] w2 fun e w' => e = .returned (.tuple #[]) ∧ ∃ ys, S.At w' ys) := Lib.hid (by
                          obtain ⟨ys, hs⟩ := Hw.out
                          exact IH.out w2 ys mid en b hs (by omega) (by omega) (by omega) (by omega))
                        clear Hw
                        go_wp2_with fail
                        all_goals
                          refine HC.out.mono ?_
                          rintro e w3 ⟨rfl, hw⟩
                          have Hw := Lib.hid hw
                          clear hw HC
                          (try go_wp2_with fail)
                          all_goals
                            refine bodyPost_end (results_none rfl _ _ _) rfl ?_
                            exact ⟨rfl, Hw.out⟩
                      · by_cases q2b : mid < en
                        · have g2a : decide ((mid : Int) < (en : Int)) = true := decide_eq_true (by omega)
                          have g2b : decide ((en : Int) < (b : Int)) = false := decide_eq_false (by omega)
                          (try go_wp2_with fail)
                          (try go_wp2_with fail)
                          all_goals
                            refine bodyPost_end (results_none rfl _ _ _) rfl ?_
                            exact ⟨rfl, Hw.out⟩
                        · have g2a : decide ((mid : Int) < (en : Int)) = false := decide_eq_false (by omega)
                          (try go_wp2_with fail)
                          (try go_wp2_with fail)
                          all_goals
                            refine bodyPost_end (results_none rfl _ _ _) rfl ?_
                            exact ⟨rfl, Hw.out⟩
                  · by_cases q1b : a < j
                    · have g1a : decide ((a : Int) < (j : Int)) = true := decide_eq_true (by omega)
                      have g1b : decide ((j : Int) < (mid : Int)) = false := decide_eq_false (by omega)
                      by_cases q2 : mid < en ∧ en < b
                      · have g2a : decide ((mid : Int) < (en : Int)) = true := decide_eq_true (by omega)
                        have g2b : decide ((en : Int) < (b : Int)) = true := decide_eq_true (by omega)
                        have HC : Hid (Calls Try.prog 38 #[.slice (some ⟨S.b, z, none⟩) S.n S.n, .int .i64 (mid : Int), .int .i64 (en : Int), .int .i64 (b : Int), .func (.func 30) #[] #[.pointer (some ⟨S.p, 0, none⟩)]] wr fun e w' => e = .returned (.tuple #[]) ∧ ∃ ys, S.At w' ys) := Lib.hid (by
                          obtain ⟨ys, hs⟩ := Hw.out
                          exact IH.out wr ys mid en b hs (by omega) (by omega) (by omega) (by omega))
                        clear Hw
                        go_wp2_with fail
                        all_goals
                          refine HC.out.mono ?_
                          rintro e w3 ⟨rfl, hw⟩
                          have Hw := Lib.hid hw
                          clear hw HC
                          (try go_wp2_with fail)
                          all_goals
                            refine bodyPost_end (results_none rfl _ _ _) rfl ?_
                            exact ⟨rfl, Hw.out⟩
                      · by_cases q2b : mid < en
                        · have g2a : decide ((mid : Int) < (en : Int)) = true := decide_eq_true (by omega)
                          have g2b : decide ((en : Int) < (b : Int)) = false := decide_eq_false (by omega)
                          (try go_wp2_with fail)
                          (try go_wp2_with fail)
                          all_goals
                            refine bodyPost_end (results_none rfl _ _ _) rfl ?_
                            exact ⟨rfl, Hw.out⟩
                        · have g2a : decide ((mid : Int) < (en : Int)) = false := decide_eq_false (by omega)
                          (try go_wp2_with fail)
                          (try go_wp2_with fail)
                          all_goals
                            refine bodyPost_end (results_none rfl _ _ _) rfl ?_
                            exact ⟨rfl, Hw.out⟩
                    · have g1a : decide ((a : Int) < (j : Int)) = false := decide_eq_false (by omega)
                      by_cases q2 : mid < en ∧ en < b
                      · have g2a : decide ((mid : Int) < (en : Int)) = true := decide_eq_true (by omega)
                        have g2b : decide ((en : Int) < (b : Int)) = true := decide_eq_true (by omega)
                        have HC : Hid (Calls Try.prog 38 #[.slice (some ⟨S.b, z, none⟩) S.n S.n, .int .i64 (mid : Int), .int .i64 (en : Int), .int .i64 (b : Int), .func (.func 30) #[] #[.pointer (some ⟨S.p, 0, none⟩)]] wr fun e w' => e = .returned (.tuple #[]) ∧ ∃ ys, S.At w' ys) := Lib.hid (by
                          obtain ⟨ys, hs⟩ := Hw.out
                          exact IH.out wr ys mid en b hs (by omega) (by omega) (by omega) (by omega))
                        clear Hw
                        go_wp2_with fail
                        all_goals
                          refine HC.out.mono ?_
                          rintro e w3 ⟨rfl, hw⟩
                          have Hw := Lib.hid hw
                          clear hw HC
                          (try go_wp2_with fail)
                          all_goals
                            refine bodyPost_end (results_none rfl _ _ _) rfl ?_
                            exact ⟨rfl, Hw.out⟩
                      · by_cases q2b : mid < en
                        · have g2a : decide ((mid : Int) < (en : Int)) = true := decide_eq_true (by omega)
                          have g2b : decide ((en : Int) < (b : Int)) = false := decide_eq_false (by omega)
                          (try go_wp2_with fail)
                          (try go_wp2_with fail)
                          all_goals
                            refine bodyPost_end (results_none rfl _ _ _) rfl ?_
                            exact ⟨rfl, Hw.out⟩
                        · have g2a : decide ((mid : Int) < (en : Int)) = false := decide_eq_false (by omega)
                          (try go_wp2_with fail)
                          (try go_wp2_with fail)
                          all_goals
                            refine bodyPost_end (results_none rfl _ _ _) rfl ?_
                            exact ⟨rfl, Hw.out⟩
                · have g0a : decide ((j : Int) < (m : Int)) = false := decide_eq_false (by omega)
                  by_cases q1 : a < j ∧ j < mid
                  · have g1a : decide ((a : Int) < (j : Int)) = true := decide_eq_true (by omega)
                    have g1b : decide ((j : Int) < (mid : Int)) = true := decide_eq_true (by omega)
                    have HC : Hid (Calls Try.prog 38 #[.slice (some ⟨S.b, z, none⟩) S.n S.n, .int .i64 (a : Int), .int .i64 (j : Int), .int .i64 (mid : Int), .func (.func 30) #[] #[.pointer (some ⟨S.p, 0, none⟩)]] wr fun e w' => e = .returned (.tuple #[]) ∧ ∃ ys, S.At w' ys) := Lib.hid (by
                      obtain ⟨ys, hs⟩ := Hw.out
                      exact IH.out wr ys a j mid hs (by omega) (by omega) (by omega) (by omega))
                    clear Hw
                    go_wp2_with fail
                    all_goals
                      refine HC.out.mono ?_
                      rintro e w2 ⟨rfl, hw⟩
                      have Hw := Lib.hid hw
                      clear hw HC
                      by_cases q2 : mid < en ∧ en < b
                      · have g2a : decide ((mid : Int) < (en : Int)) = true := decide_eq_true (by omega)
                        have g2b : decide ((en : Int) < (b : Int)) = true := decide_eq_true (by omega)
                        have HC : Hid (Calls Try.prog 38 #[.slice (some ⟨S.b, z, none⟩) S.n S.n, .int .i64 (mid : Int), .int .i64 (en : Int), .int .i64 (b : Int), .func (.func 30) #[] #[.pointer (some ⟨S.p, 0, none⟩)]] w2 fun e w' => e = .returned (.tuple #[]) ∧ ∃ ys, S.At w' ys) := Lib.hid (by
                          obtain ⟨ys, hs⟩ := Hw.out
                          exact IH.out w2 ys mid en b hs (by omega) (by omega) (by omega) (by omega))
                        clear Hw
                        go_wp2_with fail
                        all_goals
                          refine HC.out.mono ?_
                          rintro e w3 ⟨rfl, hw⟩
                          have Hw := Lib.hid hw
                          clear hw HC
                          (try go_wp2_with fail)
                          all_goals
                            refine bodyPost_end (results_none rfl _ _ _) rfl ?_
                            exact ⟨rfl, Hw.out⟩
                      · by_cases q2b : mid < en
                        · have g2a : decide ((mid : Int) < (en : Int)) = true := decide_eq_true (by omega)
                          have g2b : decide ((en : Int) < (b : Int)) = false := decide_eq_false (by omega)
                          (try go_wp2_with fail)
                          (try go_wp2_with fail)
                          all_goals
                            refine bodyPost_end (results_none rfl _ _ _) rfl ?_
                            exact ⟨rfl, Hw.out⟩
                        · have g2a : decide ((mid : Int) < (en : Int)) = false := decide_eq_false (by omega)
                          (try go_wp2_with fail)
                          (try go_wp2_with fail)
                          all_goals
                            refine bodyPost_end (results_none rfl _ _ _) rfl ?_
                            exact ⟨rfl, Hw.out⟩
                  · by_cases q1b : a < j
                    · have g1a : decide ((a : Int) < (j : Int)) = true := decide_eq_true (by omega)
                      have g1b : decide ((j : Int) < (mid : Int)) = false := decide_eq_false (by omega)
                      by_cases q2 : mid < en ∧ en < b
                      · have g2a : decide ((mid : Int) < (en : Int)) = true := decide_eq_true (by omega)
                        have g2b : decide ((en : Int) < (b : Int)) = true := decide_eq_true (by omega)
                        have HC : Hid (Calls Try.prog 38 #[.slice (some ⟨S.b, z, none⟩) S.n S.n, .int .i64 (mid : Int), .int .i64 (en : Int), .int .i64 (b : Int), .func (.func 30) #[] #[.pointer (some ⟨S.p, 0, none⟩)]] wr fun e w' => e = .returned (.tuple #[]) ∧ ∃ ys, S.At w' ys) := Lib.hid (by
                          obtain ⟨ys, hs⟩ := Hw.out
                          exact IH.out wr ys mid en b hs (by omega) (by omega) (by omega) (by omega))
                        clear Hw
                        go_wp2_with fail
                        all_goals
                          refine HC.out.mono ?_
                          rintro e w3 ⟨rfl, hw⟩
                          have Hw := Lib.hid hw
                          clear hw HC
                          (try go_wp2_with fail)
                          all_goals
                            refine bodyPost_end (results_none rfl _ _ _) rfl ?_
                            exact ⟨rfl, Hw.out⟩
                      · by_cases q2b : mid < en
                        · have g2a : decide ((mid : Int) < (en : Int)) = true := decide_eq_true (by omega)
                          have g2b : decide ((en : Int) < (b : Int)) = false := decide_eq_false (by omega)
                          (try go_wp2_with fail)
                          (try go_wp2_with fail)
                          all_goals
                            refine bodyPost_end (results_none rfl _ _ _) rfl ?_
                            exact ⟨rfl, Hw.out⟩
                        · have g2a : decide ((mid : Int) < (en : Int)) = false := decide_eq_false (by omega)
                          (try go_wp2_with fail)
                          (try go_wp2_with fail)
                          all_goals
                            refine bodyPost_end (results_none rfl _ _ _) rfl ?_
                            exact ⟨rfl, Hw.out⟩
                    · have g1a : decide ((a : Int) < (j : Int)) = false := decide_eq_false (by omega)
                      by_cases q2 : mid < en ∧ en < b
                      · have g2a : decide ((mid : Int) < (en : Int)) = true := decide_eq_true (by omega)
                        have g2b : decide ((en : Int) < (b : Int)) = true := decide_eq_true (by omega)
                        have HC : Hid (Calls Try.prog 38 #[.slice (some ⟨S.b, z, none⟩) S.n S.n, .int .i64 (mid : Int), .int .i64 (en : Int), .int .i64 (b : Int), .func (.func 30) #[] #[.pointer (some ⟨S.p, 0, none⟩)]] wr fun e w' => e = .returned (.tuple #[]) ∧ ∃ ys, S.At w' ys) := Lib.hid (by
                          obtain ⟨ys, hs⟩ := Hw.out
                          exact IH.out wr ys mid en b hs (by omega) (by omega) (by omega) (by omega))
                        clear Hw
                        go_wp2_with fail
                        all_goals
                          refine HC.out.mono ?_
                          rintro e w3 ⟨rfl, hw⟩
                          have Hw := Lib.hid hw
                          clear hw HC
                          (try go_wp2_with fail)
                          all_goals
                            refine bodyPost_end (results_none rfl _ _ _) rfl ?_
                            exact ⟨rfl, Hw.out⟩
                      · by_cases q2b : mid < en
                        · have g2a : decide ((mid : Int) < (en : Int)) = true := decide_eq_true (by omega)
                          have g2b : decide ((en : Int) < (b : Int)) = false := decide_eq_false (by omega)
                          (try go_wp2_with fail)
                          (try go_wp2_with fail)
                          all_goals
                            refine bodyPost_end (results_none rfl _ _ _) rfl ?_
                            exact ⟨rfl, Hw.out⟩
                        · have g2a : decide ((mid : Int) < (en : Int)) = false := decide_eq_false (by omega)
                          (try go_wp2_with fail)
                          (try go_wp2_with fail)
                          all_goals
                            refine bodyPost_end (results_none rfl _ _ _) rfl ?_
                            exact ⟨rfl, Hw.out⟩
end Go.Proofs.Ytlgiponfcmeiiaa
