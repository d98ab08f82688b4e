/- The walk of the law QuandleInverse. -/
import Derived.Test.YtlgiponfcmeiiaaDoorInvW
namespace Go.Proofs.YtlgiponfcmeiiaaDoor
open Go Go.RowKit
/-- In a quandle each column holds each element. -/
theorem qnd_onto {f : Nat → Nat → Nat} {n : Nat} (hlt : ∀ x y, x < n → y < n → f x y < n) (hi : IvtN f n) {x y : Nat} (hx : x < n) (hy : y < n) : ∃ z, z < n ∧ f z y = x := by
  refine Classical.byContradiction fun hno => ?_
  have hm : ((List.range n).map fun z => f z y).Nodup := by
    rw [List.nodup_iff_pairwise_ne, List.pairwise_map]
    refine List.nodup_range.imp_of_mem fun {a b} ha hb hab e => ?_
    exact hab (hi y hy a b (List.mem_range.1 ha) (List.mem_range.1 hb) e)
  have hs : ∀ v ∈ (List.range n).map (fun z => f z y), v ∈ (List.range n).erase x := fun v hv => by
    obtain ⟨z, hz, rfl⟩ := List.mem_map.1 hv
    have hz := List.mem_range.1 hz
    rw [List.Nodup.mem_erase_iff List.nodup_range]
    exact ⟨fun e => hno ⟨z, hz, e⟩, List.mem_range.2 (hlt z y hz hy)⟩
  have hl := hm.length_le_of_subset hs
  rw [List.length_map, List.length_range, List.length_erase_of_mem (List.mem_range.2 hx), List.length_range] at hl
  omega
set_option maxRecDepth 100000 in
set_option maxHeartbeats 4000000 in
theorem linv_s (T : List (List Int)) (a : Option Addr) (c : Nat) (x y : Int) (w : World) (hs : ¬ Sml T) (hT : TabAt w a T) :
    Calls Tryd.prog 4 #[.slice a T.length c, .int .i64 x, .int .i64 y] w fun e w' => e = .returned (.bool true) ∧ Below w.heap.size w w' := by
  have HS : Hid (∀ W', Below w.heap.size w W' → Calls Tryd.prog 17 #[.slice a T.length c] W' fun e w' => e = .returned (.int .i64 0) ∧ Below W'.heap.size W' w') := Lib.hid fun W' h => small_no T a c W' (hT.later h) hs
  clear hs hT
  go_enter Tryd.func4, Tryd.ntmps4
  go_wp2_with fail
  refine (awake_any w).mono ?_
  rintro e w1 ⟨rfl, hb⟩
  have H1 := Lib.hid (((HH.start w).call hb).alloc #[.slice a T.length c] 25 rfl rfl)
  clear hb
  obtain ⟨v1, hv⟩ : ∃ x, x = w1.alloc (.cells #[.slice a T.length c] 25) := ⟨_, rfl⟩
  go_wp2_with fail
  rw [← hv]
  rw [← hv] at H1
  generalize w1.heap.size = q1 at *
  clear hv
  refine (HS.out v1 H1.out.below).mono ?_
  rintro e w2 ⟨rfl, hb⟩
  have H2 := Lib.hid (H1.out.call hb)
  clear hb H1 
  go_wp2_with fail
  go_ret
  exact ⟨rfl, H2.out.below⟩
set_option maxRecDepth 100000 in
set_option maxHeartbeats 4000000 in
theorem linv_v (T : List (List Int)) (a : Option Addr) (c : Nat) (x y : Int) (w : World) (hs : Sml T) (hq : ¬ Qnd T) (hT : TabAt w a T) :
    Calls Tryd.prog 4 #[.slice a T.length c, .int .i64 x, .int .i64 y] w fun e w' => e = .returned (.bool true) ∧ Below w.heap.size w w' := by
  have HS : Hid (∀ W', Below w.heap.size w W' → Calls Tryd.prog 17 #[.slice a T.length c] W' fun e w' => e = .returned (.int .i64 1) ∧ Below W'.heap.size W' w') := Lib.hid fun W' h => small_yes T a c W' (hT.later h) hs
  have HV : Hid (∀ W', Below w.heap.size w W' → Calls Tryd.prog 15 #[.agg #[.slice a T.length c]] W' fun e w' => e = .returned (.bool (okB (Qnd T))) ∧ Below W'.heap.size W' w') := Lib.hid fun W' h => qvalid_any T a c W' (by have := hs.1; omega) (fun l hl => by have := hs.rows l hl; omega) (hT.later h)
  rw [okB_no hq] at HV
  clear hs hT hq
  go_enter Tryd.func4, Tryd.ntmps4
  go_wp2_with fail
  refine (awake_any w).mono ?_
  rintro e w1 ⟨rfl, hb⟩
  have H1 := Lib.hid (((HH.start w).call hb).alloc #[.slice a T.length c] 25 rfl rfl)
  clear hb
  obtain ⟨v1, hv⟩ : ∃ x, x = w1.alloc (.cells #[.slice a T.length c] 25) := ⟨_, rfl⟩
  go_wp2_with fail
  rw [← hv]
  rw [← hv] at H1
  generalize w1.heap.size = q1 at *
  clear hv
  refine (HS.out v1 H1.out.below).mono ?_
  rintro e w2 ⟨rfl, hb⟩
  have H2 := Lib.hid (H1.out.call hb)
  clear hb H1 
  have hc0 := H2.out.cell (k := 0) (i := 0) rfl rfl
  go_wp2_with fail
  clear hc0
  refine (HV.out w2 H2.out.below).mono ?_
  rintro e w3 ⟨rfl, hb⟩
  have H3 := Lib.hid (H2.out.call hb)
  clear hb H2 
  go_wp2_with fail
  go_ret
  exact ⟨rfl, H3.out.below⟩
set_option maxRecDepth 100000 in
set_option maxHeartbeats 4000000 in
theorem linv_x (T : List (List Int)) (a : Option Addr) (c : Nat) (x y : Int) (w : World) (hs : Sml T) (hq : Qnd T) (ho : x < 0 ∨ (T.length : Int) ≤ x ∨ y < 0 ∨ (T.length : Int) ≤ y) (hT : TabAt w a T) :
    Calls Tryd.prog 4 #[.slice a T.length c, .int .i64 x, .int .i64 y] w fun e w' => e = .returned (.bool true) ∧ Below w.heap.size w w' := by
  have HS : Hid (∀ W', Below w.heap.size w W' → Calls Tryd.prog 17 #[.slice a T.length c] W' fun e w' => e = .returned (.int .i64 1) ∧ Below W'.heap.size W' w') := Lib.hid fun W' h => small_yes T a c W' (hT.later h) hs
  have HV : Hid (∀ W', Below w.heap.size w W' → Calls Tryd.prog 15 #[.agg #[.slice a T.length c]] W' fun e w' => e = .returned (.bool (okB (Qnd T))) ∧ Below W'.heap.size W' w') := Lib.hid fun W' h => qvalid_any T a c W' (by have := hs.1; omega) (fun l hl => by have := hs.rows l hl; omega) (hT.later h)
  rw [okB_yes hq] at HV
  have HI : Hid (∀ W', Below w.heap.size w W' → Calls Tryd.prog 18 #[.agg #[.slice a T.length c], .int .i64 x, .int .i64 y] W' fun e w' => e = .returned (.int .i64 (-1)) ∧ Below W'.heap.size W' w') := Lib.hid fun W' h => inv_no T a c x y W' (by have := hs.1; omega) (fun l hl => by have := hs.rows l hl; omega) (hT.later h) fun _ => ho
  have key : ∀ b1 b2 b3 b4 : Bool, decide (x < 0) = b1 → decide (y < 0) = b2 → decide ((T.length : Int) ≤ x) = b3 → decide ((T.length : Int) ≤ y) = b4 → (b1 || b2 || b3 || b4) = true →
      Calls Tryd.prog 4 #[.slice a T.length c, .int .i64 x, .int .i64 y] w fun e w' => e = .returned (.bool true) ∧ Below w.heap.size w w' := by
    intro b1 b2 b3 b4 e1 e2 e3 e4 hor
    clear hs hT hq ho
    cases b1 with
    | true =>
      clear e2 e3 e4 hor
      go_enter Tryd.func4, Tryd.ntmps4
      go_wp2_with fail
      refine (awake_any w).mono ?_
      rintro e w1 ⟨rfl, hb⟩
      have H1 := Lib.hid (((HH.start w).call hb).alloc #[.slice a T.length c] 25 rfl rfl)
      clear hb
      obtain ⟨v1, hv⟩ : ∃ x, x = w1.alloc (.cells #[.slice a T.length c] 25) := ⟨_, rfl⟩
      go_wp2_with fail
      rw [← hv]
      rw [← hv] at H1
      generalize w1.heap.size = q1 at *
      clear hv
      refine (HS.out v1 H1.out.below).mono ?_
      rintro e w2 ⟨rfl, hb⟩
      have H2 := Lib.hid (H1.out.call hb)
      clear hb H1 
      have hc0 := H2.out.cell (k := 0) (i := 0) rfl rfl
      go_wp2_with fail
      clear hc0
      refine (HV.out w2 H2.out.below).mono ?_
      rintro e w3 ⟨rfl, hb⟩
      have H3 := Lib.hid (H2.out.call hb)
      clear hb H2 
      have hc0 := H3.out.cell (k := 0) (i := 0) rfl rfl
      go_wp2_with fail
      clear hc0
      refine (HI.out w3 H3.out.below).mono ?_
      rintro e w4 ⟨rfl, hb⟩
      have H4 := Lib.hid (H3.out.call hb)
      clear hb H3 
      go_wp2_with fail
      go_ret
      exact ⟨rfl, H4.out.below⟩
    | false =>
      cases b2 with
      | true =>
        clear e3 e4 hor
        go_enter Tryd.func4, Tryd.ntmps4
        go_wp2_with fail
        refine (awake_any w).mono ?_
        rintro e w1 ⟨rfl, hb⟩
        have H1 := Lib.hid (((HH.start w).call hb).alloc #[.slice a T.length c] 25 rfl rfl)
        clear hb
        obtain ⟨v1, hv⟩ : ∃ x, x = w1.alloc (.cells #[.slice a T.length c] 25) := ⟨_, rfl⟩
        go_wp2_with fail
        rw [← hv]
        rw [← hv] at H1
        generalize w1.heap.size = q1 at *
        clear hv
        refine (HS.out v1 H1.out.below).mono ?_
        rintro e w2 ⟨rfl, hb⟩
        have H2 := Lib.hid (H1.out.call hb)
        clear hb H1 
        have hc0 := H2.out.cell (k := 0) (i := 0) rfl rfl
        go_wp2_with fail
        clear hc0
        refine (HV.out w2 H2.out.below).mono ?_
        rintro e w3 ⟨rfl, hb⟩
        have H3 := Lib.hid (H2.out.call hb)
        clear hb H2 
        have hc0 := H3.out.cell (k := 0) (i := 0) rfl rfl
        go_wp2_with fail
        clear hc0
        refine (HI.out w3 H3.out.below).mono ?_
        rintro e w4 ⟨rfl, hb⟩
        have H4 := Lib.hid (H3.out.call hb)
        clear hb H3 
        go_wp2_with fail
        go_ret
        exact ⟨rfl, H4.out.below⟩
      | false =>
        cases b3 with
        | true =>
          clear e4 hor
          go_enter Tryd.func4, Tryd.ntmps4
          go_wp2_with fail
          refine (awake_any w).mono ?_
          rintro e w1 ⟨rfl, hb⟩
          have H1 := Lib.hid (((HH.start w).call hb).alloc #[.slice a T.length c] 25 rfl rfl)
          clear hb
          obtain ⟨v1, hv⟩ : ∃ x, x = w1.alloc (.cells #[.slice a T.length c] 25) := ⟨_, rfl⟩
          go_wp2_with fail
          rw [← hv]
          rw [← hv] at H1
          generalize w1.heap.size = q1 at *
          clear hv
          refine (HS.out v1 H1.out.below).mono ?_
          rintro e w2 ⟨rfl, hb⟩
          have H2 := Lib.hid (H1.out.call hb)
          clear hb H1 
          have hc0 := H2.out.cell (k := 0) (i := 0) rfl rfl
          go_wp2_with fail
          clear hc0
          refine (HV.out w2 H2.out.below).mono ?_
          rintro e w3 ⟨rfl, hb⟩
          have H3 := Lib.hid (H2.out.call hb)
          clear hb H2 
          have hc0 := H3.out.cell (k := 0) (i := 0) rfl rfl
          go_wp2_with fail
          clear hc0
          refine (HI.out w3 H3.out.below).mono ?_
          rintro e w4 ⟨rfl, hb⟩
          have H4 := Lib.hid (H3.out.call hb)
          clear hb H3 
          go_wp2_with fail
          go_ret
          exact ⟨rfl, H4.out.below⟩
        | false =>
          obtain rfl : b4 = true := by simpa using hor
          clear hor
          go_enter Tryd.func4, Tryd.ntmps4
          go_wp2_with fail
          refine (awake_any w).mono ?_
          rintro e w1 ⟨rfl, hb⟩
          have H1 := Lib.hid (((HH.start w).call hb).alloc #[.slice a T.length c] 25 rfl rfl)
          clear hb
          obtain ⟨v1, hv⟩ : ∃ x, x = w1.alloc (.cells #[.slice a T.length c] 25) := ⟨_, rfl⟩
          go_wp2_with fail
          rw [← hv]
          rw [← hv] at H1
          generalize w1.heap.size = q1 at *
          clear hv
          refine (HS.out v1 H1.out.below).mono ?_
          rintro e w2 ⟨rfl, hb⟩
          have H2 := Lib.hid (H1.out.call hb)
          clear hb H1 
          have hc0 := H2.out.cell (k := 0) (i := 0) rfl rfl
          go_wp2_with fail
          clear hc0
          refine (HV.out w2 H2.out.below).mono ?_
          rintro e w3 ⟨rfl, hb⟩
          have H3 := Lib.hid (H2.out.call hb)
          clear hb H2 
          have hc0 := H3.out.cell (k := 0) (i := 0) rfl rfl
          go_wp2_with fail
          clear hc0
          refine (HI.out w3 H3.out.below).mono ?_
          rintro e w4 ⟨rfl, hb⟩
          have H4 := Lib.hid (H3.out.call hb)
          clear hb H3 
          go_wp2_with fail
          go_ret
          exact ⟨rfl, H4.out.below⟩
  refine key _ _ _ _ rfl rfl rfl rfl ?_
  simp only [Bool.or_eq_true, decide_eq_true_eq]
  omega
set_option maxRecDepth 100000 in
set_option maxHeartbeats 4000000 in
theorem linv_y (T : List (List Int)) (n b o : Nat) (P Q C : Nat → Nat) (c x y : Nat) (w : World) (hn : T.length = n) (hs : Sml T) (hq : Qnd T) (hG : Grd w b o P Q C n (tbn T)) (hx : x < n) (hy : y < n) :
    Calls Tryd.prog 4 #[.slice (some ⟨b, o, none⟩) n c, .int .i64 (x : Int), .int .i64 (y : Int)] w fun e w' => e = .returned (.bool true) ∧ Below w.heap.size w w' := by
  have hsh := hq.2.1
  rw [hn] at hsh
  have hT := grd_tab hG hsh
  have HS : Hid (∀ W', Below w.heap.size w W' → Calls Tryd.prog 17 #[.slice (some ⟨b, o, none⟩) n c] W' fun e w' => e = .returned (.int .i64 1) ∧ Below W'.heap.size W' w') := Lib.hid fun W' h => by rw [← hn]; exact small_yes T (some ⟨b, o, none⟩) c W' (hT.later h) hs
  have HV : Hid (∀ W', Below w.heap.size w W' → Calls Tryd.prog 15 #[.agg #[.slice (some ⟨b, o, none⟩) n c]] W' fun e w' => e = .returned (.bool true) ∧ Below W'.heap.size W' w') := Lib.hid fun W' hb => by
    have h := qvalid_any T (some ⟨b, o, none⟩) c W' (by have := hq.1.2; omega) hq.rows (hT.later hb)
    rw [okB_yes hq, hn] at h
    exact h
  have hiv : IvtN (tbn T) n := (ivt_iff hsh).1 (by have h := hq.2.2.2.1; rw [hn] at h; exact h)
  obtain ⟨z, hz, hzx⟩ := qnd_onto hG.lt hiv hx hy
  have HI1 : Hid (∀ W', Below w.heap.size w W' → Calls Tryd.prog 18 #[.agg #[.slice (some ⟨b, o, none⟩) n c], .int .i64 (x : Int), .int .i64 (y : Int)] W' fun e w' => e = .returned (.int .i64 (z : Int)) ∧ Below W'.heap.size W' w') := Lib.hid fun W' h => inv_yes T n b o P Q C c x y z W' hn hq (hG.later h) hx hy hz hzx
  have HI2 : Hid (∀ W', Below w.heap.size w W' → Calls Tryd.prog 18 #[.agg #[.slice (some ⟨b, o, none⟩) n c], .int .i64 (tbn T x y : Int), .int .i64 (y : Int)] W' fun e w' => e = .returned (.int .i64 (x : Int)) ∧ Below W'.heap.size W' w') := Lib.hid fun W' h => inv_yes T n b o P Q C c (tbn T x y) y x W' hn hq (hG.later h) (hG.lt x y hx hy) hy hx rfl
  have HG : Hid (∀ W', Below w.heap.size w W' → Grd W' b o P Q C n (tbn T)) := Lib.hid fun W' h => hG.later h
  have hxy := hG.lt x y hx hy
  have Hzx := Lib.hid hzx
  have hn30 : n ≤ 30 := by rw [← hn]; exact hq.1.2
  clear hs hq hG hsh hT hiv hn hzx
  generalize tbn T = f at *
  obtain ⟨p, hp⟩ : ∃ p, p = f x y := ⟨_, rfl⟩
  rw [← hp] at HI2 hxy
  have Hp := Lib.hid hp.symm
  clear hp
  have d1 : decide ((x : Int) < 0) = false := decide_eq_false (by omega)
  have d2 : decide ((n : Int) ≤ (x : Int)) = false := decide_eq_false (by omega)
  have d3 : decide ((y : Int) < 0) = false := decide_eq_false (by omega)
  have d4 : decide ((n : Int) ≤ (y : Int)) = false := decide_eq_false (by omega)
  have d5 : decide (n ≤ x) = false := decide_eq_false (by omega)
  have d6 : decide (n ≤ y) = false := decide_eq_false (by omega)
  have d7 : decide ((z : Int) < (n : Int)) = true := decide_eq_true (by omega)
  have d8 : decide (z < n) = true := decide_eq_true hz
  have d9 : decide ((0 : Int) ≤ (z : Int)) = true := decide_eq_true (by omega)
  go_enter Tryd.func4, Tryd.ntmps4
  go_wp2_with fail
  refine (awake_any w).mono ?_
  rintro e w1 ⟨rfl, hb⟩
  have H1 := Lib.hid (((HH.start w).call hb).alloc #[.slice (some ⟨b, o, none⟩) n c] 25 rfl rfl)
  clear hb
  obtain ⟨v1, hv⟩ : ∃ x, x = w1.alloc (.cells #[.slice (some ⟨b, o, none⟩) n c] 25) := ⟨_, rfl⟩
  go_wp2_with fail
  rw [← hv]
  rw [← hv] at H1
  generalize w1.heap.size = q1 at *
  clear hv
  refine (HS.out v1 H1.out.below).mono ?_
  rintro e w2 ⟨rfl, hb⟩
  have H2 := Lib.hid (H1.out.call hb)
  clear hb H1 
  have hc0 := H2.out.cell (k := 0) (i := 0) rfl rfl
  go_wp2_with fail
  clear hc0
  refine (HV.out w2 H2.out.below).mono ?_
  rintro e w3 ⟨rfl, hb⟩
  have H3 := Lib.hid (H2.out.call hb)
  clear hb H2 
  have hc0 := H3.out.cell (k := 0) (i := 0) rfl rfl
  go_wp2_with fail
  clear hc0
  refine (HI1.out w3 H3.out.below).mono ?_
  rintro e w4 ⟨rfl, hb⟩
  have H4 := Lib.hid (H3.out.call hb)
  clear hb H3 
  go_wp2_with fail
  clear d1 d2 d3 d4 d5 d6
  have HKS : Hid (∀ W', Below w4.heap.size w4 W' → W'.cell? ⟨b, o + z, none⟩ = some (.slice (some ⟨P z, Q z, none⟩) n (C z)) ∧ W'.cell? ⟨P z, Q z + y, none⟩ = some (.int .i64 (x : Int)) ∧ W'.cell? ⟨q1, 0, none⟩ = some (.slice (some ⟨b, o, none⟩) n c) ∧ W'.cell? ⟨b, o + x, none⟩ = some (.slice (some ⟨P x, Q x, none⟩) n (C x)) ∧ W'.cell? ⟨P x, Q x + y, none⟩ = some (.int .i64 (p : Int))) := Lib.hid fun W' h => by
    have hH := H4.out.call h
    have hg := HG.out W' hH.below
    refine ⟨hg.row z hz, ?_, hH.cell (k := 0) (i := 0) rfl rfl, hg.row x hx, ?_⟩
    · have h1 := hg.el z y hz hy
      rw [Hzx.out] at h1; exact h1
    · have h1 := hg.el x y hx hy
      rw [Hp.out] at h1; exact h1
  have Hr := Lib.hid ((Below.refl w4.heap.size w4).drew)
  have HB4 := Lib.hid H4.out.below
  go_region_held3 (fun W' => W'.cell? ⟨b, o + z, none⟩ = some (.slice (some ⟨P z, Q z, none⟩) n (C z)) ∧ W'.cell? ⟨P z, Q z + y, none⟩ = some (.int .i64 (x : Int)) ∧ W'.cell? ⟨q1, 0, none⟩ = some (.slice (some ⟨b, o, none⟩) n c) ∧ W'.cell? ⟨b, o + x, none⟩ = some (.slice (some ⟨P x, Q x, none⟩) n (C x)) ∧ W'.cell? ⟨P x, Q x + y, none⟩ = some (.int .i64 (p : Int)))
    (first
      | with_reducible exact HKS.out _ Hr.out)
    (first
      | ((with_reducible refine (HI2.out _ (below_of HB4.out Hr.out HB4.out.size)).mono ?_); rintro e w5 ⟨rfl, hb⟩; replace Hr := Lib.hid (below_of Hr.out hb Hr.out.size); clear hb))
  all_goals
    go_wp2_with fail
    go_ret
    exact ⟨rfl, below_of HB4.out Hr.out HB4.out.size⟩
theorem linv_any (T : List (List Int)) (a : Option Addr) (c : Nat) (x y : Int) (w : World) (hT : TabAt w a T) (_ : (Lit.int .i64 x).wf = true) (_ : (Lit.int .i64 y).wf = true) :
    Calls Tryd.prog 4 #[.slice a T.length c, .int .i64 x, .int .i64 y] w fun e w' => e = .returned (.bool true) ∧ Below w.heap.size w w' := by
  by_cases hs : Sml T
  · by_cases hq : Qnd T
    · by_cases ho : x < 0 ∨ (T.length : Int) ≤ x ∨ y < 0 ∨ (T.length : Int) ≤ y
      · exact linv_x T a c x y w hs hq ho hT
      · obtain ⟨b, o, P, Q, C, rfl, hG⟩ := grd_of hT hq.1.1 hq.2.1
        obtain ⟨x', rfl⟩ : ∃ x' : Nat, x = (x' : Int) := ⟨x.toNat, by omega⟩
        obtain ⟨y', rfl⟩ : ∃ y' : Nat, y = (y' : Int) := ⟨y.toNat, by omega⟩
        exact linv_y T T.length b o P Q C c x' y' w rfl hs hq hG (by omega) (by omega)
    · exact linv_v T a c x y w hs hq hT
  · exact linv_s T a c x y w hs hT
end Go.Proofs.YtlgiponfcmeiiaaDoor
