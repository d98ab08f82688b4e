/- The walk of the law QuandleOrbits. -/
import Derived.Test.YtlgiponfcmeiiaaDoorROrbW
namespace Go.Proofs.YtlgiponfcmeiiaaDoor
open Go Go.RowKit
theorem orbT_rows (f : Nat → Nat → Nat) (n : Nat) : ∀ l ∈ orbT f n, l.length ≤ n := fun l hl => by
  obtain ⟨x, _, rfl⟩ := List.mem_map.1 hl
  exact cls_len f n x
set_option maxRecDepth 100000 in
set_option maxHeartbeats 4000000 in
theorem lorb_s (T : List (List Int)) (a : Option Addr) (c : Nat) (w : World) (hs : ¬ Sml T) (hT : TabAt w a T) :
    Calls Tryd.prog 5 #[.slice a T.length c] w fun e w' => e = .returned (.bool true) ∧ Below w.heap.size w w' := by
  have HS : Hid (∀ W', Below w.heap.size w W' → Calls Tryd.prog 17 #[.slice a T.length c] W' fun e w' => e = .returned (.int .i64 0) ∧ Below W'.heap.size W' w') := Lib.hid fun W' h => small_no T a c W' (hT.later h) hs
  clear hs hT
  generalize T.length = n at *
  go_enter Tryd.func5, Tryd.ntmps5
  go_wp2_with fail
  refine (awake_any w).mono ?_
  rintro e w1 ⟨rfl, hb⟩
  have H1 := Lib.hid ((HH.start w).call hb)
  clear hb
  go_wp2_with fail
  refine (HS.out w1 H1.out.below).mono ?_
  rintro e w2 ⟨rfl, hb⟩
  have H2 := Lib.hid (H1.out.call hb)
  clear hb H1 
  go_wp2_with fail
  go_ret
  exact ⟨rfl, H2.out.below⟩
set_option maxRecDepth 100000 in
set_option maxHeartbeats 4000000 in
theorem lorb_n (T : List (List Int)) (a : Option Addr) (c : Nat) (w : World) (hs : Sml T) (hq : ¬ Qnd T) (hT : TabAt w a T) :
    Calls Tryd.prog 5 #[.slice a T.length c] w fun e w' => e = .returned (.bool true) ∧ Below w.heap.size w w' := by
  have HS : Hid (∀ W', Below w.heap.size w W' → Calls Tryd.prog 17 #[.slice a T.length c] W' fun e w' => e = .returned (.int .i64 1) ∧ Below W'.heap.size W' w') := Lib.hid fun W' h => small_yes T a c W' (hT.later h) hs
  have HR : Hid (∀ W', Below w.heap.size w W' → Calls Tryd.prog 19 #[.slice a T.length c] W' fun e w' => e = .returned (.bool (okB (Qnd T))) ∧ Below W'.heap.size W' w') := Lib.hid fun W' h => rvalid_any T a c W' (by have := hs.1; omega) (fun l hl => by have := hs.rows l hl; omega) (hT.later h)
  rw [okB_no hq] at HR
  clear hs hT hq
  generalize T.length = n at *
  go_enter Tryd.func5, Tryd.ntmps5
  go_wp2_with fail
  refine (awake_any w).mono ?_
  rintro e w1 ⟨rfl, hb⟩
  have H1 := Lib.hid ((HH.start w).call hb)
  clear hb
  go_wp2_with fail
  refine (HS.out w1 H1.out.below).mono ?_
  rintro e w2 ⟨rfl, hb⟩
  have H2 := Lib.hid (H1.out.call hb)
  clear hb H1 
  go_wp2_with fail
  refine (HR.out w2 H2.out.below).mono ?_
  rintro e w3 ⟨rfl, hb⟩
  have H3 := Lib.hid (H2.out.call hb)
  clear hb H2 
  go_wp2_with fail
  go_ret
  exact ⟨rfl, H3.out.below⟩
set_option maxRecDepth 100000 in
set_option maxHeartbeats 4000000 in
theorem lorb_y (T : List (List Int)) (a : Option Addr) (c : Nat) (w : World) (hs : Sml T) (hq : Qnd T) (hT : TabAt w a T) :
    Calls Tryd.prog 5 #[.slice a T.length c] w fun e w' => e = .returned (.bool true) ∧ Below w.heap.size w w' := by
  have HS : Hid (∀ W', Below w.heap.size w W' → Calls Tryd.prog 17 #[.slice a T.length c] W' fun e w' => e = .returned (.int .i64 1) ∧ Below W'.heap.size W' w') := Lib.hid fun W' h => small_yes T a c W' (hT.later h) hs
  have HR : Hid (∀ W', Below w.heap.size w W' → Calls Tryd.prog 19 #[.slice a T.length c] W' fun e w' => e = .returned (.bool (okB (Qnd T))) ∧ Below W'.heap.size W' w') := Lib.hid fun W' h => rvalid_any T a c W' (by have := hs.1; omega) (fun l hl => by have := hs.rows l hl; omega) (hT.later h)
  rw [okB_yes hq] at HR
  have HO : Hid (∀ W', Below w.heap.size w W' → Calls Tryd.prog 20 #[.agg #[.slice a T.length c]] W' fun e w' => ∃ A E, e = .returned (.slice A (orbT (tbn T) T.length).length E) ∧ TabAt w' A (orbT (tbn T) T.length) ∧ Below W'.heap.size W' w') := Lib.hid fun W' h => orb_yes T T.length a c W' rfl (hT.later h) hq
  have HP : Hid (∀ W', Below w.heap.size w W' → Calls Tryd.prog 21 #[.slice a T.length c] W' fun e w' => ∃ A E, e = .returned (.slice A (orbT (tbn T) T.length).length E) ∧ TabAt w' A (orbT (tbn T) T.length) ∧ Below W'.heap.size W' w') := Lib.hid fun W' h => by
    obtain ⟨b, o, P, Q, C, rfl, hG⟩ := grd_of (hT.later h) hq.1.1 hq.2.1
    exact rorb_any b o P Q C T.length (tbn T) c W' hq.1.2 hG ((ivt_iff hq.2.1).1 hq.2.2.2.1)
  have HE : Hid (∀ (A B : Option Addr) (E G : Nat) W', TabAt W' A (orbT (tbn T) T.length) → TabAt W' B (orbT (tbn T) T.length) → Calls Tryd.prog 13 #[.slice A (orbT (tbn T) T.length).length E, .slice B (orbT (tbn T) T.length).length G] W' fun e w' => e = .returned (.bool true) ∧ Below W'.heap.size W' w') := Lib.hid fun A B E G W' ha hb => by
    have hl := hq.1.2
    have hq := equalT_any (orbT (tbn T) T.length) (orbT (tbn T) T.length) A B E G W' (by have := orbK_len (tbn T) T.length T.length; unfold orbT; omega) (fun l hl => by have := orbT_rows _ _ l hl; omega) ha hb
    rw [decide_eq_true rfl] at hq
    refine hq.mono ?_
    rintro e w' ⟨rfl, k, rfl⟩
    exact ⟨rfl, below_drewNN (Below.refl _ _) k⟩
  clear hs hT hq
  generalize orbT (tbn T) T.length = U at *
  generalize T.length = n at *
  go_enter Tryd.func5, Tryd.ntmps5
  go_wp2_with fail
  refine (awake_any w).mono ?_
  rintro e w1 ⟨rfl, hb⟩
  have H1 := Lib.hid ((HH.start w).call hb)
  clear hb
  go_wp2_with fail
  refine (HS.out w1 H1.out.below).mono ?_
  rintro e w2 ⟨rfl, hb⟩
  have H2 := Lib.hid (H1.out.call hb)
  clear hb H1 
  go_wp2_with fail
  refine (HR.out w2 H2.out.below).mono ?_
  rintro e w3 ⟨rfl, hb⟩
  have H3 := Lib.hid (H2.out.call hb)
  clear hb H2 
  go_wp2_with fail
  refine (HO.out w3 H3.out.below).mono ?_
  rintro e w4 ⟨A1, E1, rfl, hbt, hb⟩
  have H4 := Lib.hid (H3.out.call hb)
  have Ht1 := Lib.hid hbt
  clear hbt
  clear hb H3 
  go_wp2_with fail
  refine (HP.out w4 H4.out.below).mono ?_
  rintro e w5 ⟨A2, E2, rfl, hbt, hb⟩
  have H5 := Lib.hid (H4.out.call hb)
  replace Ht1 := Lib.hid (Ht1.out.later hb)
  have Ht2 := Lib.hid hbt
  clear hbt
  clear hb H4 
  go_wp2_with fail
  refine (HE.out A1 A2 E1 E2 w5 Ht1.out Ht2.out).mono ?_
  rintro e w6 ⟨rfl, hb⟩
  have H6 := Lib.hid (H5.out.call hb)
  clear hb H5 
  go_wp2_with fail
  go_ret
  exact ⟨rfl, H6.out.below⟩
theorem lorb_any (T : List (List Int)) (a : Option Addr) (c : Nat) (w : World) (hT : TabAt w a T) :
    Calls Tryd.prog 5 #[.slice a T.length c] w fun e w' => e = .returned (.bool true) ∧ Below w.heap.size w w' := by
  by_cases hs : Sml T
  · by_cases hq : Qnd T
    · exact lorb_y T a c w hs hq hT
    · exact lorb_n T a c w hs hq hT
  · exact lorb_s T a c w hs hT
end Go.Proofs.YtlgiponfcmeiiaaDoor
