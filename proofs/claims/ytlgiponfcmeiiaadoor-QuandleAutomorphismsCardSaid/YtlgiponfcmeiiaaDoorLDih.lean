/- The walk of the law QuandleDihedral. -/
import Derived.Test.YtlgiponfcmeiiaaDoorDihP
import Derived.Test.YtlgiponfcmeiiaaDoorLOrb
namespace Go.Proofs.YtlgiponfcmeiiaaDoor
open Go Go.RowKit
theorem wf_u8 {k : Int} (h : (Lit.int .u8 k).wf = true) : 0 ≤ k ∧ k ≤ 255 := by
  simp only [Lit.wf, Bool.and_eq_true, decide_eq_true_eq] at h
  have h1 : IntKind.u8.min = 0 := rfl
  have h2 : IntKind.u8.max = 255 := rfl
  rw [h1, h2] at h; exact h
set_option maxRecDepth 100000 in
set_option maxHeartbeats 4000000 in
theorem ldih_n (m s n : Nat) (w : World) (hm : m ≤ 255) (hs : m % 30 = s) (hn : 1 + s = n) :
    Calls Tryd.prog 7 #[.int .u8 (m : Int)] w fun e w' => e = .returned (.bool true) ∧ Below w.heap.size w w' := by
  have h1 : 1 ≤ n := by omega
  have h30 : n ≤ 30 := by omega
  have hqD : Qnd (afT n (n - 1)) := afT_qnd n (n - 1) h1 h30 (by omega) (by rw [(dih_t n h1).2])
  have HD : Hid (∀ W', Calls Tryd.prog 12 #[.int .i64 (n : Int)] W' fun e w' => ∃ A E, e = .returned (.tuple #[.agg #[.slice A n E], .int .i64 0]) ∧ TabNew W'.heap.size w' A (afT n (n - 1)) ∧ Below W'.heap.size W' w') := Lib.hid fun W' => dih_yes n W' h1 h30
  have HA : Hid (∀ W', Calls Tryd.prog 11 #[.int .i64 (n : Int), .int .i64 (-1)] W' fun e w' => ∃ A E, e = .returned (.tuple #[.agg #[.slice A n E], .int .i64 0]) ∧ TabNew W'.heap.size w' A (afT n (n - 1)) ∧ Below W'.heap.size W' w') := Lib.hid fun W' => aff_yes n (-1) W' h1 h30 (n - 1) (dih_t n h1).1.symm (dih_t n h1).2
  have hsh : Shp (afT n (n - 1)) n := by have := hqD.2.1; rwa [afT_len] at this
  have hr1 : ∀ l ∈ afT n (n - 1), l.length ≤ 1000000 := hqD.rows
  have HEQ : Hid (∀ (A B : Option Addr) (E G : Nat) W', TabAt W' A (afT n (n - 1)) → TabAt W' B (afT n (n - 1)) → Calls Tryd.prog 13 #[.slice A n E, .slice B n G] W' fun e w' => e = .returned (.bool true) ∧ Below W'.heap.size W' w') := Lib.hid fun A B E G W' ha hb => by
    have hq := equalT_any (afT n (n - 1)) (afT n (n - 1)) A B E G W' (by rw [afT_len]; omega) (fun l hl => by have := hr1 l hl; omega) ha hb
    rw [afT_len, decide_eq_true rfl] at hq
    refine hq.mono ?_
    rintro e w' ⟨rfl, k, rfl⟩
    exact ⟨rfl, below_drewNN (Below.refl _ _) k⟩
  have HVA : Hid (∀ (A : Option Addr) (E : Nat) W', TabAt W' A (afT n (n - 1)) → Calls Tryd.prog 15 #[.agg #[.slice A n E]] W' fun e w' => e = .returned (.bool true) ∧ Below W'.heap.size W' w') := Lib.hid fun A E W' ht => by
    have hq := qvalid_any (afT n (n - 1)) A E W' (by rw [afT_len]; omega) hr1 ht
    rw [okB_yes hqD, afT_len] at hq
    exact hq
  have HO : Hid (∀ (A : Option Addr) (E : Nat) W', TabAt W' A (afT n (n - 1)) → Calls Tryd.prog 20 #[.agg #[.slice A n E]] W' fun e w' => ∃ B G, e = .returned (.slice B (if n % 2 = 0 then 2 else 1) G) ∧ Below W'.heap.size W' w') := Lib.hid fun A E W' ht => by
    refine (orb_yes (afT n (n - 1)) n A E W' (afT_len _ _) ht hqD).mono ?_
    rintro e w' ⟨B, G, rfl, _, hb⟩
    exact ⟨B, G, by rw [dih_orbs n h1], hb⟩
  have HG : Hid (∀ (A : Option Addr) W', TabAt W' A (afT n (n - 1)) → ∃ b o P Q C, A = some ⟨b, o, none⟩ ∧ Grd W' b o P Q C n (tbn (afT n (n - 1)))) := Lib.hid fun A W' ht => grd_of ht h1 hsh
  have HI : Hid (∀ x y, x < n → y < n → tbn (afT n (n - 1)) (tbn (afT n (n - 1)) x y) y = x) := Lib.hid fun x y hx hy => by
    rw [dih_tbn hx hy, dih_tbn (afV_lt _ _ _ _ (by omega)) hy]
    exact dih_inv n x y h1 hx
  generalize afT n (n - 1) = T at *
  clear hqD hsh hr1
  have f1 : (m : Int).tmod 30 = (s : Int) := by rw [Int.tmod_eq_emod_of_nonneg (by omega)]; omega
  have f2 : (m : Int) % 30 = (s : Int) := by omega
  have f3 : 1 + (s : Int) = (n : Int) := by omega
  go_enter Tryd.func7, Tryd.ntmps7
  go_wp2_with fail
  refine (awake_any w).mono ?_
  rintro e w1 ⟨rfl, hb⟩
  have H1 := Lib.hid ((HH.start w).call hb)
  clear hb
  go_wp2_with fail
  clear f1 f2 f3 hm hs hn
  refine (HD.out w1).mono ?_
  rintro e w2 ⟨A1, E1, rfl, hbt, hb⟩
  have H2 := Lib.hid ((H1.out.call hb).alloc #[.slice A1 n E1] 25 rfl rfl)
  have Ht1 := Lib.hid (hbt.at.later ((Below.refl w2.heap.size w2).alloc (Nat.le_refl _) (.cells #[.slice A1 n E1] 25)))
  clear hbt hb H1 HD
  obtain ⟨v2, hv⟩ : ∃ x, x = w2.alloc (.cells #[.slice A1 n E1] 25) := ⟨_, rfl⟩
  go_wp2_with fail
  rw [← hv]
  rw [← hv] at H2 Ht1
  generalize w2.heap.size = q1 at *
  clear hv
  refine (HA.out v2).mono ?_
  rintro e w3 ⟨A2, E2, rfl, hbt, hb⟩
  have H3 := Lib.hid ((H2.out.call hb).alloc #[.slice A2 n E2] 25 rfl rfl)
  replace Ht1 := Lib.hid ((Ht1.out.later hb).later ((Below.refl w3.heap.size w3).alloc (Nat.le_refl _) (.cells #[.slice A2 n E2] 25)))
  have Ht2 := Lib.hid (hbt.at.later ((Below.refl w3.heap.size w3).alloc (Nat.le_refl _) (.cells #[.slice A2 n E2] 25)))
  clear hbt hb H2 HA
  obtain ⟨v3, hv⟩ : ∃ x, x = w3.alloc (.cells #[.slice A2 n E2] 25) := ⟨_, rfl⟩
  have hc0 := H3.out.cell (k := 0) (i := 0) rfl rfl
  have hc1 := H3.out.cell (k := 1) (i := 0) rfl rfl
  go_wp2_with fail
  rw [← hv]
  rw [← hv] at H3 Ht1 Ht2
  generalize w3.heap.size = q2 at *
  clear hv hc0 hc1
  refine (HEQ.out A2 A1 E2 E1 v3 Ht2.out Ht1.out).mono ?_
  rintro e w4 ⟨rfl, hb⟩
  have H4 := Lib.hid (H3.out.call hb)
  replace Ht1 := Lib.hid (Ht1.out.later hb)
  clear hb H3 HEQ Ht2
  have hc0 := H4.out.cell (k := 0) (i := 0) rfl rfl
  go_wp2_with fail
  clear hc0
  refine (HVA.out A1 E1 w4 Ht1.out).mono ?_
  rintro e w5 ⟨rfl, hb⟩
  have H5 := Lib.hid (H4.out.call hb)
  replace Ht1 := Lib.hid (Ht1.out.later hb)
  clear hb H4 HVA
  obtain ⟨b, o, P, Q, C, rfl, hG⟩ := HG.out A1 w5 Ht1.out
  have Hg := Lib.hid hG
  clear hG HG
  go_wp2_with fail
  go_loopg [54] n (fun g v wr => ∃ x : Nat, x ≤ n ∧ g = n - x ∧ v = .int .i64 x ∧ Below w5.heap.size w5 wr)
  case atStart => exact ⟨0, Nat.zero_le _, rfl, rfl, Below.refl _ _⟩
  case round =>
    obtain ⟨x, hx, rfl, rfl, hb⟩ := hrel
    have Hb := Lib.hid hb
    clear hb
    by_cases hxn : x < n
    · go_wp2_with fail
      go_loopg [58] n (fun g v wr => ∃ y : Nat, y ≤ n ∧ g = n - y ∧ v = .int .i64 y ∧ Below w5.heap.size w5 wr)
      case atStart => exact ⟨0, Nat.zero_le _, rfl, rfl, Hb.out⟩
      case round =>
        obtain ⟨y, hy, rfl, rfl, hb⟩ := hrel
        replace Hb := Lib.hid hb
        clear hb
        by_cases hyn : y < n
        · have Hg2 := Lib.hid (Hg.out.later Hb.out)
          have hc0 := (H5.out.call Hb.out).cell (k := 0) (i := 0) rfl rfl
          have h1' := Hg2.out.row x hxn
          have h2' := Hg2.out.el x y hxn hyn
          have l1 := Hg2.out.lt x y hxn hyn
          have h3' := Hg2.out.row _ l1
          have h4' := Hg2.out.el _ y l1 hyn
          rw [HI.out x y hxn hyn] at h4'
          generalize tbn T x y = t at *
          go_wp2_with fail
          go_quiet (fail)
          go_wp2_with fail
          go_roundg (n - (y + 1))
          case measure => omega
          case rel => exact ⟨y + 1, by omega, rfl, by go_num, below_drewNN Hb.out _⟩
        · obtain rfl : y = n := by omega
          go_wp2_with fail
          go_roundg (y - (x + 1))
          case measure => omega
          case rel => exact ⟨x + 1, by omega, rfl, by go_num, Hb.out⟩
    · obtain rfl : x = n := by omega
      have H6 := Lib.hid (H5.out.call Hb.out)
      replace Ht1 := Lib.hid (Ht1.out.later Hb.out)
      have hc0 := H6.out.cell (k := 0) (i := 0) rfl rfl
      rcases Nat.mod_two_eq_zero_or_one x with hpar | hpar
      · have HO2 := Lib.hid (HO.out _ E1 wr Ht1.out)
        rw [if_pos hpar] at HO2
        have g1 : (x : Int) % 2 = 0 := by omega
        have g2 : (x : Int).tmod 2 = 0 := by rw [Int.tmod_eq_emod_of_nonneg (by omega)]; omega
        clear HO hpar
        go_wp2_with fail
        refine HO2.out.mono ?_
        rintro e w6 ⟨B, G, rfl, hb⟩
        have H7 := Lib.hid (H6.out.call hb)
        clear hb H6 HO2
        go_wp2_with fail
        go_ret
        exact ⟨rfl, H7.out.below⟩
      · have HO2 := Lib.hid (HO.out _ E1 wr Ht1.out)
        rw [if_neg (by omega)] at HO2
        have g1 : (x : Int) % 2 = 1 := by omega
        have g2 : (x : Int).tmod 2 = 1 := by rw [Int.tmod_eq_emod_of_nonneg (by omega)]; omega
        clear HO hpar
        go_wp2_with fail
        refine HO2.out.mono ?_
        rintro e w6 ⟨B, G, rfl, hb⟩
        have H7 := Lib.hid (H6.out.call hb)
        clear hb H6 HO2
        go_wp2_with fail
        go_ret
        exact ⟨rfl, H7.out.below⟩
theorem ldih_any (k : Int) (w : World) (hk : (Lit.int .u8 k).wf = true) :
    Calls Tryd.prog 7 #[.int .u8 k] w fun e w' => e = .returned (.bool true) ∧ Below w.heap.size w w' := by
  obtain ⟨h0, h1⟩ := wf_u8 hk
  obtain ⟨m, rfl⟩ : ∃ m : Nat, k = (m : Int) := ⟨k.toNat, by omega⟩
  exact ldih_n m (m % 30) (1 + m % 30) w (by omega) rfl rfl
end Go.Proofs.YtlgiponfcmeiiaaDoor
