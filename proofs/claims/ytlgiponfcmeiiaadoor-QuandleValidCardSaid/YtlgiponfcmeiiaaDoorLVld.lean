/- The walk of the law QuandleValid. -/
import Derived.Test.YtlgiponfcmeiiaaDoorRefW
namespace Go.Proofs.YtlgiponfcmeiiaaDoor
open Go Go.RowKit
set_option maxRecDepth 100000 in
set_option maxHeartbeats 4000000 in
theorem lvld_s (T : List (List Int)) (a : Option Addr) (c : Nat) (w : World) (hs : ¬ Sml T) (hT : TabAt w a T) :
    Calls Tryd.prog 8 #[.slice a T.length c] w fun e w' => e = .returned (.bool true) ∧ Below w.heap.size w w' := by
  have HS : Hid (∀ W', Below w.heap.size w W' → Calls Tryd.prog 17 #[.slice a T.length c] W' fun e w' => e = .returned (.int .i64 0) ∧ Below W'.heap.size W' w') := Lib.hid fun W' h => small_no T a c W' (hT.later h) hs
  clear hs hT
  generalize T.length = n at *
  go_enter Tryd.func8, Tryd.ntmps8
  go_wp2_with fail
  refine (awake_any w).mono ?_
  rintro e w1 ⟨rfl, hb⟩
  have H1 := Lib.hid ((HH.start w).call hb)
  clear hb
  go_wp2_with fail
  refine (HS.out w1 H1.out.below).mono ?_
  rintro e w2 ⟨rfl, hb⟩
  have H2 := Lib.hid (H1.out.call hb)
  clear hb H1 HS
  go_wp2_with fail
  go_ret
  exact ⟨rfl, H2.out.below⟩
set_option maxRecDepth 100000 in
set_option maxHeartbeats 4000000 in
theorem lvld_n (T : List (List Int)) (a : Option Addr) (c : Nat) (w : World) (hs : Sml T) (hq : ¬ Qnd T) (hT : TabAt w a T) :
    Calls Tryd.prog 8 #[.slice a T.length c] w fun e w' => e = .returned (.bool true) ∧ Below w.heap.size w w' := by
  have HS : Hid (∀ W', Below w.heap.size w W' → Calls Tryd.prog 17 #[.slice a T.length c] W' fun e w' => e = .returned (.int .i64 1) ∧ Below W'.heap.size W' w') := Lib.hid fun W' h => small_yes T a c W' (hT.later h) hs
  have HV : Hid (∀ W', Below w.heap.size w W' → Calls Tryd.prog 15 #[.agg #[.slice a T.length c]] W' fun e w' => e = .returned (.bool (okB (Qnd T))) ∧ Below W'.heap.size W' w') := Lib.hid fun W' h => qvalid_any T a c W' (by have := hs.1; omega) (fun l hl => by have := hs.rows l hl; omega) (hT.later h)
  have HR : Hid (∀ W', Below w.heap.size w W' → Calls Tryd.prog 19 #[.slice a T.length c] W' fun e w' => e = .returned (.bool (okB (Qnd T))) ∧ Below W'.heap.size W' w') := Lib.hid fun W' h => rvalid_any T a c W' (by have := hs.1; omega) (fun l hl => by have := hs.rows l hl; omega) (hT.later h)
  have HF : Hid (∀ W', Below w.heap.size w W' → Calls Tryd.prog 23 #[.agg #[.slice a T.length c]] W' fun e w' => e = .returned (.tuple #[.string ⟨#[]⟩, .int .i64 1]) ∧ Below W'.heap.size W' w') := Lib.hid fun W' h => fmt_no T a c W' (by have := hs.1; omega) (fun l hl => by have := hs.rows l hl; omega) (hT.later h) hq
  have HI : Hid (∀ W', Below w.heap.size w W' → Calls Tryd.prog 18 #[.agg #[.slice a T.length c], .int .i64 0, .int .i64 0] W' fun e w' => e = .returned (.int .i64 (-1)) ∧ Below W'.heap.size W' w') := Lib.hid fun W' h => inv_no T a c 0 0 W' (by have := hs.1; omega) (fun l hl => by have := hs.rows l hl; omega) (hT.later h) fun h => absurd h hq
  have HO : Hid (∀ W', Below w.heap.size w W' → Calls Tryd.prog 20 #[.agg #[.slice a T.length c]] W' fun e w' => e = .returned (.slice none 0 0) ∧ Below W'.heap.size W' w') := Lib.hid fun W' h => orb_no T a c W' (by have := hs.1; omega) (fun l hl => by have := hs.rows l hl; omega) (hT.later h) hq
  rw [okB_no hq] at HV HR
  clear hs hT hq
  generalize T.length = n at *
  go_enter Tryd.func8, Tryd.ntmps8
  go_wp2_with fail
  refine (awake_any w).mono ?_
  rintro e w1 ⟨rfl, hb⟩
  have H1 := Lib.hid ((HH.start w).call hb)
  clear hb
  go_wp2_with fail
  refine (HS.out w1 H1.out.below).mono ?_
  rintro e w2 ⟨rfl, hb⟩
  have H2 := Lib.hid ((H1.out.call hb).alloc #[.slice a n c] 25 rfl rfl)
  clear hb H1 HS
  obtain ⟨v2, hv⟩ : ∃ x, x = w2.alloc (.cells #[.slice a n c] 25) := ⟨_, rfl⟩
  have hc0 := H2.out.cell (k := 0) (i := 0) rfl rfl
  go_wp2_with fail
  rw [← hv]
  rw [← hv] at H2
  generalize w2.heap.size = q1 at *
  clear hv hc0
  refine (HV.out v2 H2.out.below).mono ?_
  rintro e w3 ⟨rfl, hb⟩
  have H3 := Lib.hid (H2.out.call hb)
  clear hb H2 
  have hc0 := H3.out.cell (k := 0) (i := 0) rfl rfl
  go_wp2_with fail
  clear hc0
  refine (HR.out w3 H3.out.below).mono ?_
  rintro e w4 ⟨rfl, hb⟩
  have H4 := Lib.hid (H3.out.call hb)
  clear hb H3 
  have hc0 := H4.out.cell (k := 0) (i := 0) rfl rfl
  go_wp2_with fail
  clear hc0
  refine (HF.out w4 H4.out.below).mono ?_
  rintro e w5 ⟨rfl, hb⟩
  have H5 := Lib.hid (H4.out.call hb)
  clear hb H4 
  have hc0 := H5.out.cell (k := 0) (i := 0) rfl rfl
  go_wp2_with fail
  clear hc0
  refine (HI.out w5 H5.out.below).mono ?_
  rintro e w6 ⟨rfl, hb⟩
  have H6 := Lib.hid (H5.out.call hb)
  clear hb H5 
  have hc0 := H6.out.cell (k := 0) (i := 0) rfl rfl
  go_wp2_with fail
  clear hc0
  refine (HO.out w6 H6.out.below).mono ?_
  rintro e w7 ⟨rfl, hb⟩
  have H7 := Lib.hid (H6.out.call hb)
  clear hb H6 
  go_wp2_with fail
  go_ret
  exact ⟨rfl, H7.out.below⟩
set_option maxRecDepth 100000 in
set_option maxHeartbeats 4000000 in
theorem lvld_y (T : List (List Int)) (a : Option Addr) (c : Nat) (w : World) (hs : Sml T) (hq : Qnd T) (hT : TabAt w a T) :
    Calls Tryd.prog 8 #[.slice a T.length c] w fun e w' => e = .returned (.bool true) ∧ Below w.heap.size w w' := by
  have HS : Hid (∀ W', Below w.heap.size w W' → Calls Tryd.prog 17 #[.slice a T.length c] W' fun e w' => e = .returned (.int .i64 1) ∧ Below W'.heap.size W' w') := Lib.hid fun W' h => small_yes T a c W' (hT.later h) hs
  have HV : Hid (∀ W', Below w.heap.size w W' → Calls Tryd.prog 15 #[.agg #[.slice a T.length c]] W' fun e w' => e = .returned (.bool (okB (Qnd T))) ∧ Below W'.heap.size W' w') := Lib.hid fun W' h => qvalid_any T a c W' (by have := hs.1; omega) (fun l hl => by have := hs.rows l hl; omega) (hT.later h)
  have HR : Hid (∀ W', Below w.heap.size w W' → Calls Tryd.prog 19 #[.slice a T.length c] W' fun e w' => e = .returned (.bool (okB (Qnd T))) ∧ Below W'.heap.size W' w') := Lib.hid fun W' h => rvalid_any T a c W' (by have := hs.1; omega) (fun l hl => by have := hs.rows l hl; omega) (hT.later h)
  have HF : Hid (∀ W', Below w.heap.size w W' → Calls Tryd.prog 23 #[.agg #[.slice a T.length c]] W' fun e w' => e = .returned (.tuple #[.string ⟨(txtT (tbn T) T.length T.length).toArray⟩, .int .i64 0]) ∧ Below W'.heap.size W' w') := Lib.hid fun W' h => fmt_yes T T.length a c W' rfl (hT.later h) hq
  rw [okB_yes hq] at HV HR
  clear hs hT hq
  generalize (txtT (tbn T) T.length T.length).toArray = X at *
  generalize T.length = n at *
  go_enter Tryd.func8, Tryd.ntmps8
  go_wp2_with fail
  refine (awake_any w).mono ?_
  rintro e w1 ⟨rfl, hb⟩
  have H1 := Lib.hid ((HH.start w).call hb)
  clear hb
  go_wp2_with fail
  refine (HS.out w1 H1.out.below).mono ?_
  rintro e w2 ⟨rfl, hb⟩
  have H2 := Lib.hid ((H1.out.call hb).alloc #[.slice a n c] 25 rfl rfl)
  clear hb H1 HS
  obtain ⟨v2, hv⟩ : ∃ x, x = w2.alloc (.cells #[.slice a n c] 25) := ⟨_, rfl⟩
  have hc0 := H2.out.cell (k := 0) (i := 0) rfl rfl
  go_wp2_with fail
  rw [← hv]
  rw [← hv] at H2
  generalize w2.heap.size = q1 at *
  clear hv hc0
  refine (HV.out v2 H2.out.below).mono ?_
  rintro e w3 ⟨rfl, hb⟩
  have H3 := Lib.hid (H2.out.call hb)
  clear hb H2 
  have hc0 := H3.out.cell (k := 0) (i := 0) rfl rfl
  go_wp2_with fail
  clear hc0
  refine (HR.out w3 H3.out.below).mono ?_
  rintro e w4 ⟨rfl, hb⟩
  have H4 := Lib.hid (H3.out.call hb)
  clear hb H3 
  have hc0 := H4.out.cell (k := 0) (i := 0) rfl rfl
  go_wp2_with fail
  clear hc0
  refine (HF.out w4 H4.out.below).mono ?_
  rintro e w5 ⟨rfl, hb⟩
  have H5 := Lib.hid (H4.out.call hb)
  clear hb H4 
  have hc0 := H5.out.cell (k := 0) (i := 0) rfl rfl
  go_wp2_with fail
  clear hc0
  go_ret
  exact ⟨rfl, H5.out.below⟩
theorem lvld_any (T : List (List Int)) (a : Option Addr) (c : Nat) (w : World) (hT : TabAt w a T) :
    Calls Tryd.prog 8 #[.slice a T.length c] w fun e w' => e = .returned (.bool true) ∧ Below w.heap.size w w' := by
  by_cases hs : Sml T
  · by_cases hq : Qnd T
    · exact lvld_y T a c w hs hq hT
    · exact lvld_n T a c w hs hq hT
  · exact lvld_s T a c w hs hT
end Go.Proofs.YtlgiponfcmeiiaaDoor
