/- The walks of the laws' own 'small' and 'awake'. -/
import Derived.Test.YtlgiponfcmeiiaaDoorFmtW
import Derived.Test.YtlgiponfcmeiiaaDoorEqW
namespace Go.Proofs.YtlgiponfcmeiiaaDoor
open Go Go.RowKit
def Sml (T : List (List Int)) : Prop := T.length ≤ 40 ∧ ∀ r, r < T.length → (T.getD r []).length ≤ 40
theorem Sml.rows {T : List (List Int)} (h : Sml T) : ∀ l ∈ T, l.length ≤ 40 := fun l hl => by
  obtain ⟨i, hi⟩ := List.getElem?_of_mem hl
  have hil := (List.getElem?_eq_some_iff.1 hi).1
  have := h.2 i hil
  rwa [List.getD_eq_getElem?_getD, hi] at this
set_option maxRecDepth 100000 in
set_option maxHeartbeats 4000000 in
theorem small_yes (T : List (List Int)) (a : Option Addr) (c : Nat) (w : World) (hT : TabAt w a T) (hs : Sml T) :
    Calls Tryd.prog 17 #[.slice a T.length c] w fun e w' => e = .returned (.int .i64 1) ∧ Below w.heap.size w w' := by
  have HT := Lib.hid hT
  have Hs := Lib.hid hs.2
  have hl := hs.1
  have d1 : decide (40 < (T.length : Int)) = false := decide_eq_false (by omega)
  have d2 : decide (40 < T.length) = false := decide_eq_false (by omega)
  clear hT hs
  go_enter Tryd.func17, Tryd.ntmps17
  go_wp2_with fail
  clear d1 d2
  go_loopg [3] T.length (fun g v wr => ∃ r : Nat, r ≤ T.length ∧ g = T.length - r ∧ v = .int .i64 r ∧ w = wr)
  case atStart => exact ⟨0, Nat.zero_le _, rfl, rfl, rfl⟩
  case round =>
    obtain ⟨r, hr, rfl, rfl, rfl⟩ := hrel
    by_cases hrl : r < T.length
    · obtain ⟨b1, o1, a', c', rfl, _, hrow⟩ := HT.out.rowAt (getD_some hrl)
      have hc1 := (hrow w (Below.refl _ _)).1
      have hl1 := Hs.out r hrl
      have d1 : decide (40 < ((T.getD r []).length : Int)) = false := decide_eq_false (by omega)
      have d2 : decide (40 < (T.getD r []).length) = false := decide_eq_false (by omega)
      clear hrow
      generalize (T.getD r []).length = L at *
      go_wp2_with fail
      go_roundg (T.length - (r + 1))
      case measure => omega
      case rel => exact ⟨r + 1, by omega, rfl, by go_num, rfl⟩
    · obtain rfl : r = T.length := by omega
      go_wp2_with fail
      go_ret
      exact ⟨rfl, Below.refl _ _⟩
set_option maxRecDepth 100000 in
set_option maxHeartbeats 4000000 in
theorem small_no (T : List (List Int)) (a : Option Addr) (c : Nat) (w : World) (hT : TabAt w a T) (hs : ¬ Sml T) :
    Calls Tryd.prog 17 #[.slice a T.length c] w fun e w' => e = .returned (.int .i64 0) ∧ Below w.heap.size w w' := by
  have HT := Lib.hid hT
  have Hs := Lib.hid hs
  clear hT hs
  by_cases n1 : 40 < T.length
  · have d1 : decide (40 < (T.length : Int)) = true := decide_eq_true (by omega)
    have d2 : decide (40 < T.length) = true := decide_eq_true n1
    clear n1
    go_enter Tryd.func17, Tryd.ntmps17
    go_wp2_with fail
    go_ret
    exact ⟨rfl, Below.refl _ _⟩
  · have d1 : decide (40 < (T.length : Int)) = false := decide_eq_false (by omega)
    have d2 : decide (40 < T.length) = false := decide_eq_false n1
    have hl : T.length ≤ 40 := by omega
    clear n1
    go_enter Tryd.func17, Tryd.ntmps17
    go_wp2_with fail
    clear d1 d2
    go_loopg [3] T.length (fun g v wr => ∃ r : Nat, r ≤ T.length ∧ g = T.length - r ∧ v = .int .i64 r ∧ w = wr ∧ ∀ x, x < r → (T.getD x []).length ≤ 40)
    case atStart => exact ⟨0, Nat.zero_le _, rfl, rfl, rfl, fun x h => absurd h (Nat.not_lt_zero x)⟩
    case round =>
      obtain ⟨r, hr, rfl, rfl, rfl, hq⟩ := hrel
      have Hq := Lib.hid hq
      clear hq
      by_cases hrl : r < T.length
      · obtain ⟨b1, o1, a', c', rfl, _, hrow⟩ := HT.out.rowAt (getD_some hrl)
        have hc1 := (hrow w (Below.refl _ _)).1
        clear hrow
        by_cases h40 : (T.getD r []).length ≤ 40
        · have d1 : decide (40 < ((T.getD r []).length : Int)) = false := decide_eq_false (by omega)
          have d2 : decide (40 < (T.getD r []).length) = false := decide_eq_false (by omega)
          have Hq2 : Hid (∀ x, x < r + 1 → (T.getD x []).length ≤ 40) := Lib.hid fun x hx => by
            rcases Nat.lt_or_ge x r with g | g
            · exact Hq.out x g
            · rw [show x = r by omega]; exact h40
          clear Hq
          generalize (T.getD r []).length = L at *
          go_wp2_with fail
          go_roundg (T.length - (r + 1))
          case measure => omega
          case rel => exact ⟨r + 1, by omega, rfl, by go_num, rfl, Hq2.out⟩
        · have d1 : decide (40 < ((T.getD r []).length : Int)) = true := decide_eq_true (by omega)
          have d2 : decide (40 < (T.getD r []).length) = true := decide_eq_true (by omega)
          clear Hq
          generalize (T.getD r []).length = L at *
          go_wp2_with fail
          go_ret
          exact ⟨rfl, Below.refl _ _⟩
      · exact absurd ⟨hl, fun x hx => Hq.out x (by omega)⟩ Hs.out
/-! ### awake -/
theorem dig1 {u : Nat} (h : u < 10) : Lib.decDigits u = [UInt8.ofNat (48 + u)] := by rw [Lib.decDigits, dif_pos h]
theorem ex_q : Qnd (afT 3 2) := afT_qnd 3 2 (by omega) (by omega) (by omega) (by decide)
theorem ex_txt : txtT (tbn (afT 3 2)) 3 3 = [48, 32, 50, 32, 49, 59, 32, 50, 32, 49, 32, 48, 59, 32, 49, 32, 48, 32, 50] := by
  have h : ∀ x y, x < 3 → y < 3 → tbn (afT 3 2) x y = afV 3 2 x y := fun x y hx hy => by unfold tbn; rw [afT_tb 3 2 x y hx hy]; rfl
  have h00 : tbn (afT 3 2) 0 0 = 0 := h 0 0 (by omega) (by omega)
  have h01 : tbn (afT 3 2) 0 1 = 2 := h 0 1 (by omega) (by omega)
  have h02 : tbn (afT 3 2) 0 2 = 1 := h 0 2 (by omega) (by omega)
  have h10 : tbn (afT 3 2) 1 0 = 2 := h 1 0 (by omega) (by omega)
  have h11 : tbn (afT 3 2) 1 1 = 1 := h 1 1 (by omega) (by omega)
  have h12 : tbn (afT 3 2) 1 2 = 0 := h 1 2 (by omega) (by omega)
  have h20 : tbn (afT 3 2) 2 0 = 1 := h 2 0 (by omega) (by omega)
  have h21 : tbn (afT 3 2) 2 1 = 0 := h 2 1 (by omega) (by omega)
  have h22 : tbn (afT 3 2) 2 2 = 2 := h 2 2 (by omega) (by omega)
  have d0 : Lib.decDigits 0 = [48] := dig1 (by omega)
  have d1 : Lib.decDigits 1 = [49] := dig1 (by omega)
  have d2 : Lib.decDigits 2 = [50] := dig1 (by omega)
  simp [txtT, rowT, h00, h01, h02, h10, h11, h12, h20, h21, h22, d0, d1, d2]
set_option maxRecDepth 100000 in
set_option maxHeartbeats 4000000 in
theorem awake_any (w : World) : Calls Tryd.prog 10 #[] w fun e w' => e = .returned (.bool true) ∧ Below w.heap.size w w' := by
  have HD : Hid (∀ W', Calls Tryd.prog 12 #[.int .i64 3] W' fun e w' => ∃ A E, e = .returned (.tuple #[.agg #[.slice A 3 E], .int .i64 0]) ∧ TabNew W'.heap.size w' A (afT 3 2) ∧ Below W'.heap.size W' w') := Lib.hid fun W' => dih_yes 3 W' (by omega) (by omega)
  have HF : Hid (∀ (A : Option Addr) (E : Nat) W', TabAt W' A (afT 3 2) → Calls Tryd.prog 23 #[.agg #[.slice A 3 E]] W' fun e w' => e = .returned (.tuple #[.string { data := #[48, 32, 50, 32, 49, 59, 32, 50, 32, 49, 32, 48, 59, 32, 49, 32, 48, 32, 50] }, .int .i64 0]) ∧ Below W'.heap.size W' w') := Lib.hid fun A E W' h => by
    have hq := fmt_yes (afT 3 2) 3 A E W' (afT_len 3 2) h ex_q
    rw [ex_txt] at hq
    exact hq
  have HA : Hid (∀ W', Calls Tryd.prog 11 #[.int .i64 5, .int .i64 2] W' fun e w' => ∃ A E, e = .returned (.tuple #[.agg #[.slice A 5 E], .int .i64 0]) ∧ TabNew W'.heap.size w' A (afT 5 2) ∧ Below W'.heap.size W' w') := Lib.hid fun W' => aff_yes 5 2 W' (by omega) (by omega) 2 (by decide) (by decide)
  go_enter Tryd.func10, Tryd.ntmps10
  go_wp2_with fail
  refine (HD.out w).mono ?_
  rintro e w1 ⟨A1, E1, rfl, hbt, hb⟩
  have H1 := Lib.hid (((HH.start w).call hb).alloc #[.slice A1 3 E1] 25 rfl rfl)
  have Ht := Lib.hid (hbt.at.later ((Below.refl w1.heap.size w1).alloc (Nat.le_refl _) (.cells #[.slice A1 3 E1] 25)))
  clear hb hbt HD
  have hc0 := H1.out.cell (k := 0) (i := 0) rfl rfl
  obtain ⟨v1, hv⟩ : ∃ x, x = w1.alloc (.cells #[.slice A1 3 E1] 25) := ⟨_, rfl⟩
  go_wp2_with fail
  clear hc0
  rw [← hv]
  rw [← hv] at H1 Ht
  generalize w1.heap.size = q1 at *
  clear hv
  refine (HF.out A1 E1 v1 Ht.out).mono ?_
  rintro e w2 ⟨rfl, hb⟩
  have H2 := Lib.hid (H1.out.call hb)
  clear hb H1 Ht HF
  go_wp2_with fail
  refine (HA.out w2).mono ?_
  rintro e w3 ⟨A3, E3, rfl, hbt, hb⟩
  have H3 := Lib.hid ((H2.out.call hb).alloc #[.slice A3 5 E3] 25 rfl rfl)
  have Ht := Lib.hid (hbt.at.later ((Below.refl w3.heap.size w3).alloc (Nat.le_refl _) (.cells #[.slice A3 5 E3] 25)))
  clear hb hbt HA H2
  have hsh5 : Shp (afT 5 2) 5 := by
    have h := (afT_qnd 5 2 (by omega) (by omega) (by omega) (by decide)).2.1
    rw [afT_len] at h
    exact h
  obtain ⟨b, o, P, Q, C, rfl, hG⟩ := grd_of (n := 5) Ht.out (by omega) hsh5
  clear hsh5
  have hc1 := H3.out.cell (k := 1) (i := 0) rfl rfl
  have hg0 := hG.row 0 (by omega)
  have hg1 := hG.el 0 1 (by omega) (by omega)
  rw [show tbn (afT 5 2) 0 1 = 4 by unfold tbn; rw [afT_tb 5 2 0 1 (by omega) (by omega)]; rfl] at hg1
  clear hG Ht
  rw [Nat.add_zero] at hg0
  go_wp2_with fail
  go_ret
  exact ⟨rfl, H3.out.below⟩
end Go.Proofs.YtlgiponfcmeiiaaDoor
