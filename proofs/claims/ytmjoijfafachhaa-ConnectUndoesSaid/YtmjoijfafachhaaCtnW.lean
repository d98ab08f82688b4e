/- Lists of pairs of numbers: slices.Index, slices.Contains, slices.Equal; diagram.Out of a valid diagram. -/
import Derived.Test.YtmjoijfafachhaaCutW
import Derived.Test.YtmjoijfafachhaaConM
import Derived.Test.YtmjoijfafachhaaHeap
namespace Go.Proofs.Ytmjoijfafachhaa
open Go Go.RowKit
theorem prs_cells {w : World} {A : Option Addr} {l : List (Nat × Nat)} (h : VAt w A (prs l)) (h0 : 0 < l.length) : ∃ b o, A = some ⟨b, o, none⟩ ∧ ∀ i p q, l.getD i (0, 0) = (p, q) → i < l.length → w.cell? ⟨b, o + i * 2, none⟩ = some (.int .i64 (p : Int)) ∧ w.cell? ⟨b, o + i * 2 + 1, none⟩ = some (.int .i64 (q : Int)) := by
  obtain ⟨b, o, rfl, _, hc⟩ := h.open (by rw [prs_len]; omega)
  refine ⟨b, o, rfl, fun i p q e hi => ?_⟩
  have g := prs_get (l := l) (i := i) (p := (p, q)) (by rw [← e]; exact getD_some hi)
  exact ⟨hc _ _ g.1, by rw [Nat.add_assoc]; exact hc _ _ g.2⟩
set_option maxRecDepth 100000 in
set_option maxHeartbeats 4000000 in
theorem pindex_any (l : List (Nat × Nat)) (A : Option Addr) (C x y : Nat) (w : World) (hl : l.length ≤ 1000000) (hA : VAt w A (prs l)) :
    Calls Try.prog 69 #[.slice A l.length C, .agg #[.int .i64 (x : Int), .int .i64 (y : Int)]] w fun e w' => ∃ r : Int, e = .returned (.int .i64 r) ∧ (0 ≤ r ↔ (x, y) ∈ l) ∧ Below w.heap.size w w' := by
  have HA : Hid (0 < l.length → ∃ b o, A = some ⟨b, o, none⟩ ∧ ∀ i p q, l.getD i (0, 0) = (p, q) → i < l.length → w.cell? ⟨b, o + i * 2, none⟩ = some (.int .i64 (p : Int)) ∧ w.cell? ⟨b, o + i * 2 + 1, none⟩ = some (.int .i64 (q : Int))) := Lib.hid fun h => prs_cells hA h
  clear hA
  have H0 := Lib.hid ((HH.start w).alloc #[.int .i64 (x : Int), .int .i64 (y : Int)] 45 rfl rfl)
  go_enter Try.func69, Try.ntmps69
  go_wp2_with fail
  go_loopg [8] l.length (fun g v wr => ∃ i : Nat, i ≤ l.length ∧ g = l.length - i ∧ v = .int .i64 i ∧ Hid (∀ j, j < i → l.getD j (0, 0) ≠ (x, y)) ∧ HH w wr [(w.heap.size, rowO 45 [.int .i64 (x : Int), .int .i64 (y : Int)])] [])
  case atStart => exact ⟨0, Nat.zero_le _, rfl, rfl, Lib.hid fun j hj => absurd hj (Nat.not_lt_zero _), H0.out⟩
  case round =>
    obtain ⟨i, hi, rfl, rfl, Hn, hh⟩ := hrel
    have Hh := Lib.hid hh
    clear hh H0
    by_cases hil : i < l.length
    · obtain ⟨b, o, rfl, hc⟩ := HA.out (by omega)
      obtain ⟨p, q, hpq⟩ : ∃ p q, l.getD i (0, 0) = (p, q) := ⟨_, _, rfl⟩
      obtain ⟨c0, c1⟩ := hc i p q hpq hil
      have hblk := World.block_lt_of_cell? _ _ c0
      have d0 := (Hh.out.below.cell (p := ⟨b, o + i * 2, none⟩) hblk).trans c0
      have d1 := (Hh.out.below.cell (p := ⟨b, o + i * 2 + 1, none⟩) hblk).trans c1
      have k0 := Hh.out.cell (k := 0) (i := 0) rfl rfl
      have k1 := Hh.out.cell (k := 0) (i := 1) rfl rfl
      have he := run_eqPair (x : Int) (y : Int) (p : Int) (q : Int)
      clear c0 c1 hc hblk
      by_cases e : p = x ∧ q = y
      · obtain ⟨rfl, rfl⟩ := e
        have Hm : Hid ((p, q) ∈ l) := Lib.hid (by rw [← hpq, List.getD_eq_getElem?_getD, List.getElem?_eq_getElem hil]; exact List.getElem_mem _)
        have he2 : ((p : Int) == (p : Int) && (q : Int) == (q : Int)) = true := by simp
        rw [he2] at he
        clear hpq he2
        go_wp2_with fail
        go_region
        go_wp2_with fail
        go_ret
        exact ⟨_, rfl, ⟨fun _ => Hm.out, fun _ => by omega⟩, Hh.out.drew.below⟩
      · have he2 : ((x : Int) == (p : Int) && (y : Int) == (q : Int)) = false := by
          cases t : ((x : Int) == (p : Int) && (y : Int) == (q : Int))
          · rfl
          · rw [Bool.and_eq_true, beq_iff_eq, beq_iff_eq] at t; exact absurd ⟨by omega, by omega⟩ e
        rw [he2] at he
        have Hn2 : Hid (∀ j, j < i + 1 → l.getD j (0, 0) ≠ (x, y)) := Lib.hid fun j hj => by
          by_cases g : j = i
          · subst g; rw [hpq]; intro u; cases u; exact e ⟨rfl, rfl⟩
          · exact Hn.out j (by omega)
        have Hd := Lib.hid Hh.out.drew
        clear hpq he2 e
        go_wp2_with fail
        go_region
        go_wp2_with fail
        go_roundg (l.length - (i + 1))
        case measure => omega
        case rel => exact ⟨i + 1, by omega, rfl, by go_num, Lib.hid Hn2.out, Hd.out⟩
    · obtain rfl : i = l.length := by omega
      go_wp2_with fail
      go_ret
      refine ⟨_, rfl, ⟨fun h => absurd h (by decide), fun h => ?_⟩, Hh.out.below⟩
      obtain ⟨j, hj, e⟩ := List.getElem_of_mem h
      refine absurd ?_ (Hn.out j hj)
      rw [List.getD_eq_getElem?_getD, List.getElem?_eq_getElem hj, e]; rfl
set_option maxRecDepth 100000 in
set_option maxHeartbeats 4000000 in
theorem pcontains_any (l : List (Nat × Nat)) (A : Option Addr) (C x y : Nat) (w : World) (hl : l.length ≤ 1000000) (hA : VAt w A (prs l)) :
    Calls Try.prog 30 #[.slice A l.length C, .agg #[.int .i64 (x : Int), .int .i64 (y : Int)]] w fun e w' => e = .returned (.bool (decide ((x, y) ∈ l))) ∧ Below w.heap.size w w' := by
  have H0 := Lib.hid ((HH.start w).alloc #[.int .i64 (x : Int), .int .i64 (y : Int)] 45 rfl rfl)
  have HI : Hid (∀ W', Below w.heap.size w W' → Calls Try.prog 69 #[.slice A l.length C, .agg #[.int .i64 (x : Int), .int .i64 (y : Int)]] W' fun e w' => ∃ r : Int, e = .returned (.int .i64 r) ∧ decide (0 ≤ r) = decide ((x, y) ∈ l) ∧ Below W'.heap.size W' w') := Lib.hid fun W' h => (pindex_any l A C x y W' hl (by
    intro i v hi
    obtain ⟨b, o, e, hc⟩ := hA i v hi
    exact ⟨b, o, e, (h.cell (p := ⟨b, o + i, none⟩) (World.block_lt_of_cell? _ _ hc)).trans hc⟩)).mono fun e w' ⟨r, he, hr, hb⟩ => ⟨r, he, decide_eq_decide.2 hr, hb⟩
  clear hA
  generalize decide ((x, y) ∈ l) = t at *
  have k0 := H0.out.cell (k := 0) (i := 0) rfl rfl
  have k1 := H0.out.cell (k := 0) (i := 1) rfl rfl
  go_enter Try.func30, Try.ntmps30
  go_wp2_with fail
  clear k0 k1
  refine (HI.out _ H0.out.below).mono ?_
  rintro e w1 ⟨r, rfl, hd, hb⟩
  have H1 := Lib.hid (H0.out.call hb)
  clear hb H0 HI
  go_wp2_with fail
  go_ret
  exact ⟨rfl, H1.out.below⟩
set_option maxRecDepth 100000 in
set_option maxHeartbeats 4000000 in
theorem peq_any (l m : List (Nat × Nat)) (A B : Option Addr) (C D : Nat) (w : World) (hl : l.length ≤ 1000000) (hA : VAt w A (prs l)) (hB : VAt w B (prs m)) (hlm : l = m) :
    Calls Try.prog 41 #[.slice A l.length C, .slice B m.length D] w fun e w' => e = .returned (.bool true) ∧ Below w.heap.size w w' := by
  subst hlm
  have HA : Hid (0 < l.length → ∃ b o, A = some ⟨b, o, none⟩ ∧ ∀ i p q, l.getD i (0, 0) = (p, q) → i < l.length → w.cell? ⟨b, o + i * 2, none⟩ = some (.int .i64 (p : Int)) ∧ w.cell? ⟨b, o + i * 2 + 1, none⟩ = some (.int .i64 (q : Int))) := Lib.hid fun h => prs_cells hA h
  have HB : Hid (0 < l.length → ∃ b o, B = some ⟨b, o, none⟩ ∧ ∀ i p q, l.getD i (0, 0) = (p, q) → i < l.length → w.cell? ⟨b, o + i * 2, none⟩ = some (.int .i64 (p : Int)) ∧ w.cell? ⟨b, o + i * 2 + 1, none⟩ = some (.int .i64 (q : Int))) := Lib.hid fun h => prs_cells hB h
  clear hA hB
  go_enter Try.func41, Try.ntmps41
  go_wp2_with fail
  go_loopg [13] l.length (fun g v wr => ∃ i : Nat, i ≤ l.length ∧ g = l.length - i ∧ v = .int .i64 i ∧ Below w.heap.size w wr)
  case atStart => exact ⟨0, Nat.zero_le _, rfl, rfl, Below.refl _ _⟩
  case round =>
    obtain ⟨i, hi, rfl, rfl, hb⟩ := hrel
    by_cases hil : i < l.length
    · obtain ⟨b, o, rfl, hc⟩ := HA.out (by omega)
      obtain ⟨b', o', rfl, hc'⟩ := HB.out (by omega)
      obtain ⟨p, q, hpq⟩ : ∃ p q, l.getD i (0, 0) = (p, q) := ⟨_, _, rfl⟩
      obtain ⟨c0, c1⟩ := hc i p q hpq hil
      obtain ⟨e0, e1⟩ := hc' i p q hpq hil
      have d0 := (hb.cell (p := ⟨b, o + i * 2, none⟩) (World.block_lt_of_cell? _ _ c0)).trans c0
      have d1 := (hb.cell (p := ⟨b, o + i * 2 + 1, none⟩) (World.block_lt_of_cell? _ _ c1)).trans c1
      have d2 := (hb.cell (p := ⟨b', o' + i * 2, none⟩) (World.block_lt_of_cell? _ _ e0)).trans e0
      have d3 := (hb.cell (p := ⟨b', o' + i * 2 + 1, none⟩) (World.block_lt_of_cell? _ _ e1)).trans e1
      have he := run_eqPair (p : Int) (q : Int) (p : Int) (q : Int)
      have he2 : ((p : Int) == (p : Int) && (q : Int) == (q : Int)) = true := by simp
      rw [he2] at he
      have Hb := Lib.hid hb.drew
      clear c0 c1 e0 e1 hc hc' hpq he2 hb
      go_wp2_with fail
      go_region
      go_wp2_with fail
      go_roundg (l.length - (i + 1))
      case measure => omega
      case rel => exact ⟨i + 1, by omega, rfl, by go_num, Hb.out⟩
    · obtain rfl : i = l.length := by omega
      go_wp2_with fail
      go_ret
      exact ⟨rfl, hb⟩
set_option maxRecDepth 100000 in
set_option maxHeartbeats 4000000 in
theorem out_yes (S M : List Int) (L : Int) (aS aM : Option Addr) (cS cM : Nat) (h : Nat) (w : World) (hv : vldB S M L = true) (hh : h < 4 * S.length) (hS : IntsAt w aS S) (hM : IntsAt w aM M) :
    Calls Try.prog 29 #[.agg #[.slice aS S.length cS, .slice aM M.length cM, .int .i64 L], .int .i64 (h : Int)] w fun e w' => e = .returned (.bool (outB S h)) ∧ Below w.heap.size w w' := by
  have hs := vldB_shape hv
  have hfw := hs.few
  have HV : Hid (∀ W', Below w.heap.size w W' → Calls Try.prog 26 #[.agg #[.slice aS S.length cS, .slice aM M.length cM, .int .i64 L]] W' fun e w' => e = .returned (.bool true) ∧ Below W'.heap.size W' w') := Lib.hid fun W' g => by
    have g := valid_any S M L aS aM cS cM W' (by omega) (by rw [hs.len]; omega) (hS.later g) (hM.later g)
    rw [hv] at g; exact g
  have HO : Hid (∀ W', Below w.heap.size w W' → Calls Try.prog 66 #[.agg #[.slice aS S.length cS, .slice aM M.length cM, .int .i64 L], .int .i64 (h : Int)] W' fun e w' => e = .returned (.bool (outB S h)) ∧ Below W'.heap.size W' w') := Lib.hid fun W' g => outgoing_any S M L aS aM cS cM h W' hh (by omega) (hS.later g)
  have hN : h < M.length := by rw [hs.len]; exact hh
  have hN2 : M.length ≤ 256 := by rw [hs.len]; omega
  have H0 := Lib.hid ((HH.start w).alloc #[.slice aS S.length cS, .slice aM M.length cM, .int .i64 L] 24 rfl rfl)
  clear hs hv hS hM hh
  generalize outB S h = t at *
  generalize S.length = n at *
  generalize M.length = N at *
  have k0 := H0.out.cell (k := 0) (i := 0) rfl rfl
  have k1 := H0.out.cell (k := 0) (i := 1) rfl rfl
  have k2 := H0.out.cell (k := 0) (i := 2) rfl rfl
  have u1 : decide ((h : Int) ≥ 0) = true := decide_eq_true (by omega)
  have u2 : decide ((0 : Int) ≤ (h : Int)) = true := decide_eq_true (by omega)
  have u3 : decide ((h : Int) < (N : Int)) = true := decide_eq_true (by omega)
  go_enter Try.func29, Try.ntmps29
  go_wp2_with fail
  clear k0 k1 k2
  refine (HV.out _ H0.out.below).mono ?_
  rintro e w1 ⟨rfl, hb⟩
  have H1 := Lib.hid (H0.out.call hb)
  clear hb H0 HV
  have k0 := H1.out.cell (k := 0) (i := 0) rfl rfl
  have k1 := H1.out.cell (k := 0) (i := 1) rfl rfl
  have k2 := H1.out.cell (k := 0) (i := 2) rfl rfl
  go_wp2_with fail
  refine (HO.out _ H1.out.below).mono ?_
  rintro e w2 ⟨rfl, hb⟩
  have H2 := Lib.hid (H1.out.call hb)
  clear hb H1 HO
  go_wp2_with fail
  go_ret
  exact ⟨rfl, H2.out.below⟩
end Go.Proofs.Ytmjoijfafachhaa
