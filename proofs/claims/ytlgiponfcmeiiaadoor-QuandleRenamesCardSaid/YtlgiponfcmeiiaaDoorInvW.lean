/- The walk of quandle.Inverse. -/
import Derived.Test.YtlgiponfcmeiiaaDoorLawD
namespace Go.Proofs.YtlgiponfcmeiiaaDoor
open Go Go.RowKit
set_option maxRecDepth 100000 in
set_option maxHeartbeats 4000000 in
theorem inv_no (T : List (List Int)) (a : Option Addr) (c : Nat) (x y : Int) (w : World) (hTl : T.length ≤ 1000000) (hRl : ∀ l ∈ T, l.length ≤ 1000000) (hT : TabAt w a T) (h : Qnd T → x < 0 ∨ (T.length : Int) ≤ x ∨ y < 0 ∨ (T.length : Int) ≤ y) :
    Calls Tryd.prog 18 #[.agg #[.slice a T.length c], .int .i64 x, .int .i64 y] w fun e w' => e = .returned (.int .i64 (-1)) ∧ Below w.heap.size w w' := by
  obtain ⟨n, hn⟩ : ∃ n, T.length = n := ⟨_, rfl⟩
  rw [hn] at h
  have HV : Hid (∀ W', Below w.heap.size w W' → Calls Tryd.prog 15 #[.agg #[.slice a n c]] W' fun e w' => e = .returned (.bool (okB (Qnd T))) ∧ Below W'.heap.size W' w') := Lib.hid fun W' hb => by rw [← hn]; exact qvalid_any T a c W' hTl hRl (hT.later hb)
  rw [hn]
  clear hn hTl hRl hT
  obtain ⟨W, hW⟩ : ∃ W, W = w.alloc (.cells #[.slice a n c] 25) := ⟨_, rfl⟩
  have h0 : HH w W [(w.heap.size, rowO 25 [.slice a n c])] [] := by rw [hW]; exact (HH.start w).alloc #[.slice a n c] 25 rfl rfl
  have H0 := Lib.hid h0
  clear h0
  have hc0 := H0.out.cell (k := 0) (i := 0) rfl rfl
  by_cases hq : Qnd T
  · rw [okB_yes hq] at HV
    have h := h hq
    clear hq
    by_cases x0 : x < 0
    · have d1 : decide (x < 0) = true := decide_eq_true x0
      clear h x0
      go_enter Tryd.func18, Tryd.ntmps18
      rw [hW] at hc0
      go_wp2_with fail
      rw [← hW]
      clear hW hc0
      refine (HV.out W H0.out.below).mono ?_
      rintro e w1 ⟨rfl, hb⟩
      have H1 := Lib.hid (H0.out.call hb)
      clear hb H0 HV
      go_wp2_with fail
      go_ret
      exact ⟨rfl, H1.out.below⟩
    have d1 : decide (x < 0) = false := decide_eq_false x0
    by_cases x1 : (n : Int) ≤ x
    · have d2 : decide ((n : Int) ≤ x) = true := decide_eq_true x1
      clear h x0 x1
      go_enter Tryd.func18, Tryd.ntmps18
      rw [hW] at hc0
      go_wp2_with fail
      rw [← hW]
      clear hW hc0
      refine (HV.out W H0.out.below).mono ?_
      rintro e w1 ⟨rfl, hb⟩
      have H1 := Lib.hid (H0.out.call hb)
      clear hb H0 HV
      go_wp2_with fail
      go_ret
      exact ⟨rfl, H1.out.below⟩
    have d2 : decide ((n : Int) ≤ x) = false := decide_eq_false x1
    by_cases y0 : y < 0
    · have d3 : decide (y < 0) = true := decide_eq_true y0
      clear h x0 x1 y0
      go_enter Tryd.func18, Tryd.ntmps18
      rw [hW] at hc0
      go_wp2_with fail
      rw [← hW]
      clear hW hc0
      refine (HV.out W H0.out.below).mono ?_
      rintro e w1 ⟨rfl, hb⟩
      have H1 := Lib.hid (H0.out.call hb)
      clear hb H0 HV
      go_wp2_with fail
      go_ret
      exact ⟨rfl, H1.out.below⟩
    have d3 : decide (y < 0) = false := decide_eq_false y0
    have d4 : decide ((n : Int) ≤ y) = true := decide_eq_true (by omega)
    clear h x0 x1 y0
    go_enter Tryd.func18, Tryd.ntmps18
    rw [hW] at hc0
    go_wp2_with fail
    rw [← hW]
    clear hW hc0
    refine (HV.out W H0.out.below).mono ?_
    rintro e w1 ⟨rfl, hb⟩
    have H1 := Lib.hid (H0.out.call hb)
    clear hb H0 HV
    go_wp2_with fail
    go_ret
    exact ⟨rfl, H1.out.below⟩
  · rw [okB_no hq] at HV
    clear h hq
    go_enter Tryd.func18, Tryd.ntmps18
    rw [hW] at hc0
    go_wp2_with fail
    rw [← hW]
    clear hW hc0
    refine (HV.out W H0.out.below).mono ?_
    rintro e w1 ⟨rfl, hb⟩
    have H1 := Lib.hid (H0.out.call hb)
    clear hb H0 HV
    go_wp2_with fail
    go_ret
    exact ⟨rfl, H1.out.below⟩
theorem Qnd.rows {T : List (List Int)} (h : Qnd T) : ∀ l ∈ T, l.length ≤ 1000000 := fun l hl => by
  obtain ⟨i, hi⟩ := List.getElem?_of_mem hl
  have hil := (List.getElem?_eq_some_iff.1 hi).1
  have h1 := (h.2.1.2 i hil).1
  have h2 := h.1.2
  rw [List.getD_eq_getElem?_getD, hi] at h1
  have : l.length = T.length := h1
  omega
set_option maxRecDepth 100000 in
set_option maxHeartbeats 4000000 in
theorem inv_yes (T : List (List Int)) (n : Nat) (b o : Nat) (P Q C : Nat → Nat) (c : Nat) (x y z : Nat) (w : World) (hn : T.length = n) (hq : Qnd T) (hG : Grd w b o P Q C n (tbn T)) (hx : x < n) (hy : y < n) (hz : z < n) (hzx : tbn T z y = x) :
    Calls Tryd.prog 18 #[.agg #[.slice (some ⟨b, o, none⟩) n c], .int .i64 (x : Int), .int .i64 (y : Int)] w fun e w' => e = .returned (.int .i64 (z : Int)) ∧ Below w.heap.size w w' := by
  have hsh := hq.2.1
  rw [hn] at hsh
  have hT := grd_tab hG hsh
  have HV : Hid (∀ W', Below w.heap.size w W' → Calls Tryd.prog 15 #[.agg #[.slice (some ⟨b, o, none⟩) n c]] W' fun e w' => e = .returned (.bool true) ∧ Below W'.heap.size W' w') := Lib.hid fun W' hb => by
    have h := qvalid_any T (some ⟨b, o, none⟩) c W' (by have := hq.1.2; omega) hq.rows (hT.later hb)
    rw [okB_yes hq, hn] at h
    exact h
  have hiv : IvtN (tbn T) n := (ivt_iff hsh).1 (by have h := hq.2.2.2.1; rw [hn] at h; exact h)
  have Hiv : Hid (∀ u, u < n → tbn T u y = x → u = z) := Lib.hid fun u hu e => hiv y hy u z hu hz (e.trans hzx.symm)
  have Hzx := Lib.hid hzx
  have HG : Hid (∀ W', Below w.heap.size w W' → Grd W' b o P Q C n (tbn T)) := Lib.hid fun W' h => hG.later h
  have hn30 : n ≤ 30 := by rw [← hn]; exact hq.1.2
  clear hn hq hG hsh hT hiv hzx
  generalize tbn T = f at *
  obtain ⟨W, hW⟩ : ∃ W, W = w.alloc (.cells #[.slice (some ⟨b, o, none⟩) n c] 25) := ⟨_, rfl⟩
  have h0 : HH w W [(w.heap.size, rowO 25 [.slice (some ⟨b, o, none⟩) n c])] [] := by rw [hW]; exact (HH.start w).alloc #[.slice (some ⟨b, o, none⟩) n c] 25 rfl rfl
  have H0 := Lib.hid h0
  clear h0
  have hc0 := H0.out.cell (k := 0) (i := 0) rfl rfl
  have d1 : decide ((x : Int) < 0) = false := decide_eq_false (by omega)
  have d2 : decide ((n : Int) ≤ (x : Int)) = false := decide_eq_false (by omega)
  have d3 : decide ((y : Int) < 0) = false := decide_eq_false (by omega)
  have d4 : decide ((n : Int) ≤ (y : Int)) = false := decide_eq_false (by omega)
  have d5 : decide (n ≤ x) = false := decide_eq_false (by omega)
  have d6 : decide (n ≤ y) = false := decide_eq_false (by omega)
  go_enter Tryd.func18, Tryd.ntmps18
  rw [hW] at hc0
  go_wp2_with fail
  rw [← hW]
  clear hW hc0
  refine (HV.out W H0.out.below).mono ?_
  rintro e w1 ⟨rfl, hb⟩
  have H1 := Lib.hid (H0.out.call hb)
  clear hb H0 HV
  go_wp2_with fail
  clear d1 d2 d3 d4 d5 d6
  have hc0 := H1.out.cell (k := 0) (i := 0) rfl rfl
  go_loopg [34] n (fun g v wr => ∃ i : Nat, i ≤ z ∧ g = n - i ∧ v = .int .i64 i ∧ w1 = wr ∧ ∀ u, u < i → f u y ≠ x)
  case atStart => exact ⟨0, Nat.zero_le _, rfl, rfl, rfl, fun u h => absurd h (Nat.not_lt_zero u)⟩
  case round =>
    obtain ⟨i, hi, rfl, rfl, rfl, hu⟩ := hrel
    have Hu := Lib.hid hu
    clear hu
    have hin : i < n := by omega
    have h1 := (HG.out w1 H1.out.below).row i hin
    have h2 := (HG.out w1 H1.out.below).el i y hin hy
    by_cases he : f i y = x
    · obtain rfl : i = z := Hiv.out i hin he
      rw [he] at h2
      go_wp2_with fail
      go_ret
      exact ⟨rfl, H1.out.below⟩
    · have hne : i ≠ z := fun e => he (by rw [e]; exact Hzx.out)
      have e1 : ((f i y : Int) == (x : Int)) = false := by rw [beq_eq_false_iff_ne]; omega
      have e2 : (f i y == x) = false := by rw [beq_eq_false_iff_ne]; exact he
      have Hu2 : Hid (∀ u, u < i + 1 → f u y ≠ x) := Lib.hid fun u h => by
        rcases Nat.lt_or_ge u i with g | g
        · exact Hu.out u g
        · rw [show u = i by omega]; exact he
      clear he Hu
      generalize f i y = p at *
      go_wp2_with fail
      go_roundg (n - (i + 1))
      case measure => omega
      case rel => exact ⟨i + 1, by omega, rfl, by go_num, rfl, Hu2.out⟩
end Go.Proofs.YtlgiponfcmeiiaaDoor
