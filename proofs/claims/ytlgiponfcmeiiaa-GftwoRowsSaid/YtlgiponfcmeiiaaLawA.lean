/- The walks of layer 40's small, matrix and awake. -/
import Derived.Test.YtlgiponfcmeiiaaHomW
namespace Go.Proofs.Ytlgiponfcmeiiaa
open Go Go.RowKit
/-- Is a matrix small? -/
def smallB (C : Int) (T : List (List Int)) : Bool := decide (T.length ≤ 30 ∧ ¬ (40 < C ∧ C ≤ 65536)) && T.all fun l => decide (l.length ≤ 40)
theorem smallB_iff {C : Int} {T : List (List Int)} : smallB C T = true ↔ (T.length ≤ 30 ∧ ¬ (40 < C ∧ C ≤ 65536)) ∧ ∀ l ∈ T, l.length ≤ 40 := by
  unfold smallB
  rw [Bool.and_eq_true, decide_eq_true_eq, List.all_eq_true]
  exact and_congr_right fun _ => ⟨fun h l hl => of_decide_eq_true (h l hl), fun h l hl => decide_eq_true (h l hl)⟩
def sI (b : Bool) : Int := if b = true then 1 else 0
set_option maxRecDepth 100000 in
set_option maxHeartbeats 4000000 in
theorem small_any (C : Int) (T : List (List Int)) (a : Option Addr) (c : Nat) (w : World) (hT : TabAt w a T) :
    Calls Try.prog 12 #[.int .i64 C, .slice a T.length c] w fun e w' => e = .returned (.int .i64 (sI (smallB C T))) ∧ Below w.heap.size w w' := by
  obtain ⟨res, hres⟩ : ∃ r, r = smallB C T := ⟨_, rfl⟩
  rw [← hres]
  have Hres := Lib.hid hres
  have HT := Lib.hid hT
  clear hres hT
  by_cases n1 : 30 < T.length
  · obtain rfl : res = false := by rw [Hres.out]; unfold smallB; rw [decide_eq_false (by omega)]; rfl
    have d1 : decide (30 < (T.length : Int)) = true := decide_eq_true (by omega)
    clear n1
    go_enter Try.func12, Try.ntmps12
    go_wp2_with fail
    go_ret
    exact ⟨rfl, Below.refl _ _⟩
  · have d1 : decide (30 < (T.length : Int)) = false := decide_eq_false (by omega)
    by_cases n2 : 40 < C ∧ C ≤ 65536
    · obtain rfl : res = false := by rw [Hres.out]; unfold smallB; rw [decide_eq_false (by omega)]; rfl
      have d2 : decide (40 < C) = true := decide_eq_true n2.1
      have d3 : decide (C ≤ 65536) = true := decide_eq_true n2.2
      clear n2
      go_enter Try.func12, Try.ntmps12
      go_wp2_with fail
      go_ret
      exact ⟨rfl, Below.refl _ _⟩
    · have Hall : Hid (T.all (fun l => decide (l.length ≤ 40)) = res) := Lib.hid (by rw [Hres.out]; unfold smallB; rw [decide_eq_true (by omega)]; rfl)
      have hT30 : T.length ≤ 30 := by omega
      have key : ∀ (d2 d3 : Bool), decide (40 < C) = d2 → (d2 = true → decide (C ≤ 65536) = d3) → (d2 && d3) = false → Calls Try.prog 12 #[.int .i64 C, .slice a T.length c] w fun e w' => e = .returned (.int .i64 (sI res)) ∧ Below w.heap.size w w' := by
        intro d2 d3 e2 e3 e4
        have walk : Calls Try.prog 12 #[.int .i64 C, .slice a T.length c] w fun e w' => e = .returned (.int .i64 (sI res)) ∧ Below w.heap.size w w' := by
          clear Hres n1 n2
          cases d2 with
          | true =>
            obtain rfl : d3 = false := by simpa using e4
            have e5 := e3 rfl
            clear e3 e4
            go_enter Try.func12, Try.ntmps12
            go_wp2_with fail
            clear d1 e2 e5
            go_loopg [5] T.length (fun g v wr => ∃ r : Nat, r ≤ T.length ∧ g = T.length - r ∧ v = .int .i64 r ∧ w = wr ∧ (T.drop r).all (fun l => decide (l.length ≤ 40)) = res)
            case atStart => exact ⟨0, Nat.zero_le _, rfl, rfl, rfl, Hall.out⟩
            case round =>
              obtain ⟨r, hr, rfl, rfl, rfl, hq⟩ := hrel
              have Hq := Lib.hid hq
              clear hq Hall
              by_cases hrl : r < T.length
              · obtain ⟨row, hrow, hdr⟩ := drop_consG T r hrl
                obtain ⟨b1, o1, rfl, _, hcT⟩ := HT.out.open (by omega)
                obtain ⟨a', c', hc1, _, _⟩ := hcT r row hrow
                have Hq2 : Hid ((decide (row.length ≤ 40) && (T.drop (r + 1)).all (fun l => decide (l.length ≤ 40))) = res) := Lib.hid (by rw [← Hq.out, hdr, List.all_cons])
                clear hcT hrow hdr Hq
                generalize row.length = L at *
                by_cases hL : 40 < L
                · obtain rfl : res = false := by rw [← Hq2.out, decide_eq_false (by omega)]; rfl
                  go_wp2_with fail
                  go_ret
                  exact ⟨rfl, Below.refl _ _⟩
                · have Hq3 : Hid ((T.drop (r + 1)).all (fun l => decide (l.length ≤ 40)) = res) := Lib.hid (by rw [← Hq2.out, decide_eq_true (by omega)]; rfl)
                  go_wp2_with fail
                  go_roundg (T.length - (r + 1))
                  case measure => omega
                  case rel => exact ⟨r + 1, by omega, rfl, by go_num, rfl, Hq3.out⟩
              · obtain rfl : r = T.length := by omega
                obtain rfl : res = true := by rw [← Hq.out, List.drop_eq_nil_of_le (Nat.le_refl _)]; rfl
                go_wp2_with fail
                go_ret
                exact ⟨rfl, Below.refl _ _⟩
          | false =>
            clear e3 e4
            go_enter Try.func12, Try.ntmps12
            go_wp2_with fail
            clear d1 e2
            go_loopg [5] T.length (fun g v wr => ∃ r : Nat, r ≤ T.length ∧ g = T.length - r ∧ v = .int .i64 r ∧ w = wr ∧ (T.drop r).all (fun l => decide (l.length ≤ 40)) = res)
            case atStart => exact ⟨0, Nat.zero_le _, rfl, rfl, rfl, Hall.out⟩
            case round =>
              obtain ⟨r, hr, rfl, rfl, rfl, hq⟩ := hrel
              have Hq := Lib.hid hq
              clear hq Hall
              by_cases hrl : r < T.length
              · obtain ⟨row, hrow, hdr⟩ := drop_consG T r hrl
                obtain ⟨b1, o1, rfl, _, hcT⟩ := HT.out.open (by omega)
                obtain ⟨a', c', hc1, _, _⟩ := hcT r row hrow
                have Hq2 : Hid ((decide (row.length ≤ 40) && (T.drop (r + 1)).all (fun l => decide (l.length ≤ 40))) = res) := Lib.hid (by rw [← Hq.out, hdr, List.all_cons])
                clear hcT hrow hdr Hq
                generalize row.length = L at *
                by_cases hL : 40 < L
                · obtain rfl : res = false := by rw [← Hq2.out, decide_eq_false (by omega)]; rfl
                  go_wp2_with fail
                  go_ret
                  exact ⟨rfl, Below.refl _ _⟩
                · have Hq3 : Hid ((T.drop (r + 1)).all (fun l => decide (l.length ≤ 40)) = res) := Lib.hid (by rw [← Hq2.out, decide_eq_true (by omega)]; rfl)
                  go_wp2_with fail
                  go_roundg (T.length - (r + 1))
                  case measure => omega
                  case rel => exact ⟨r + 1, by omega, rfl, by go_num, rfl, Hq3.out⟩
              · obtain rfl : r = T.length := by omega
                obtain rfl : res = true := by rw [← Hq.out, List.drop_eq_nil_of_le (Nat.le_refl _)]; rfl
                go_wp2_with fail
                go_ret
                exact ⟨rfl, Below.refl _ _⟩
        exact walk
      by_cases m1 : 40 < C
      · exact key true false (decide_eq_true m1) (fun _ => decide_eq_false (by omega)) rfl
      · exact key false true (decide_eq_false m1) (fun h => by cases h) rfl
set_option maxRecDepth 100000 in
theorem matrix_any (C : Int) (n : Nat) (a : Option Addr) (c : Nat) (w : World) :
    Calls Try.prog 13 #[.int .i64 C, .slice a n c] w fun e w' => e = .returned (.agg #[.int .i64 C, .slice a n c]) ∧ Below w.heap.size w w' := by
  have HB : Hid (Below w.heap.size w (w.alloc (.cells #[.int .i64 C, .slice a n c] 26))) := Lib.hid ((Below.refl _ _).alloc (Nat.le_refl _) _)
  go_enter Try.func13, Try.ntmps13
  go_wp2_with fail
  refine bodyPost_ret (v := .agg #[.int .i64 C, .slice a n c]) (by simp [results, Try.results13, go_sem]) rfl ?_
  exact ⟨rfl, HB.out⟩
/-! ### The examples -/
theorem ex_tab1 : tabN 3 [3, 6, 5] = [[0, 1], [1, 2], [0, 2]] := by decide +kernel
theorem ex_tab2 : tabN 3 [7] = [[0, 1, 2]] := by decide +kernel
theorem ex_tab3 : tabN 0 [0, 0, 0] = [[], [], []] := by decide +kernel
theorem ex_rk1 : rk [3, 6, 5] = 2 := by decide +kernel
theorem ex_rk2 : rk [7] = 1 := by decide +kernel
theorem ex_rk3 : rk [0, 0, 0] = 0 := by decide +kernel
/-- A table out of rows that lie in blocks. -/
theorem tab3 {w : World} {b b0 b1 b2 n0 n1 n2 : Nat} {l0 l1 l2 : List Int} (h : Row w b 36 [.slice (some ⟨b0, 0, none⟩) n0 n0, .slice (some ⟨b1, 0, none⟩) n1 n1, .slice (some ⟨b2, 0, none⟩) n2 n2]) (e0 : l0.length = n0) (e1 : l1.length = n1) (e2 : l2.length = n2)
    (h0 : Row w b0 3 (ints l0)) (h1 : Row w b1 3 (ints l1)) (h2 : Row w b2 3 (ints l2)) : TabAt w (some ⟨b, 0, none⟩) [l0, l1, l2] := by
  subst e0; subst e1; subst e2
  intro i row hi
  rcases i with _ | _ | _ | i
  · cases hi; exact ⟨b, 0, _, _, rfl, by rw [Nat.zero_add, h.cell]; rfl, Nat.le_refl _, h0.at⟩
  · cases hi; exact ⟨b, 0, _, _, rfl, by rw [Nat.zero_add, h.cell]; rfl, Nat.le_refl _, h1.at⟩
  · cases hi; exact ⟨b, 0, _, _, rfl, by rw [Nat.zero_add, h.cell]; rfl, Nat.le_refl _, h2.at⟩
  · simp at hi
theorem tab1 {w : World} {b b0 n0 : Nat} {l0 : List Int} (h : Row w b 36 [.slice (some ⟨b0, 0, none⟩) n0 n0]) (e0 : l0.length = n0) (h0 : Row w b0 3 (ints l0)) : TabAt w (some ⟨b, 0, none⟩) [l0] := by
  subst e0
  intro i row hi
  rcases i with _ | i
  · cases hi; exact ⟨b, 0, _, _, rfl, by rw [Nat.zero_add, h.cell]; rfl, Nat.le_refl _, h0.at⟩
  · simp at hi
set_option maxRecDepth 100000 in
set_option maxHeartbeats 4000000 in
theorem awake_any (w : World) : Calls Try.prog 11 #[] w fun e w' => e = .returned (.bool true) ∧ Below w.heap.size w w' := by
  go_enter Try.func11, Try.ntmps11
  have HC1 : Hid (∀ (a : Option Addr) (W' : World), TabAt W' a [[0, 1], [1, 2], [0, 2]] → Calls Try.prog 14 #[.agg #[.int .i64 3, .slice a 3 3]] W' fun e w' => e = .returned (.tuple #[.int .i64 2, .int .i64 0]) ∧ Below W'.heap.size W' w') := Lib.hid fun a W' h => by
    have := rank_yes 3 [3, 6, 5] (by decide) (by decide) (by decide) a 3 W' (by rw [ex_tab1]; exact h)
    rw [ex_rk1] at this
    exact this
  have HC2 : Hid (∀ (a b : Option Addr) (W' : World), TabAt W' a [[0, 1, 2]] → TabAt W' b [[], [], []] → Calls Try.prog 20 #[.agg #[.int .i64 3, .slice a 1 1], .agg #[.int .i64 0, .slice b 3 3]] W' fun e w' => e = .returned (.tuple #[.int .i64 2, .int .i64 0]) ∧ Below W'.heap.size W' w') := Lib.hid fun a b W' h1 h2 => by
    have := hom_any 3 0 [7] [0, 0, 0] (by decide) (by decide) (by decide) (by decide) (by decide) (by decide) a b 1 3 W' (by rw [ex_tab2]; exact h1) (by rw [ex_tab3]; exact h2)
    rw [ex_rk2, ex_rk3] at this
    refine this.mono ?_
    rintro e w' ⟨_, _, h3, h4⟩
    exact ⟨h3 rfl (by decide +kernel), h4⟩
  obtain ⟨W, hW⟩ : ∃ W, W = (((w.alloc (.cells #[.int .i64 0, .int .i64 1] 3)).alloc (.cells #[.int .i64 1, .int .i64 2] 3)).alloc (.cells #[.int .i64 0, .int .i64 2] 3)).alloc (.cells #[.slice (some ⟨w.heap.size, 0, none⟩) 2 2, .slice (some ⟨w.heap.size + 1, 0, none⟩) 2 2, .slice (some ⟨w.heap.size + 1 + 1, 0, none⟩) 2 2] 36) := ⟨_, rfl⟩
  have h0 : HH w W [(w.heap.size, rowO 3 (ints [0, 1])), (w.heap.size + 1, rowO 3 (ints [1, 2])), (w.heap.size + 1 + 1, rowO 3 (ints [0, 2])), (w.heap.size + 1 + 1 + 1, rowO 36 [.slice (some ⟨w.heap.size, 0, none⟩) 2 2, .slice (some ⟨w.heap.size + 1, 0, none⟩) 2 2, .slice (some ⟨w.heap.size + 1 + 1, 0, none⟩) 2 2])] [] := by
    rw [hW]; exact ((((HH.start w).alloc #[.int .i64 0, .int .i64 1] 3 rfl rfl).alloc #[.int .i64 1, .int .i64 2] 3 (by simp) rfl).alloc #[.int .i64 0, .int .i64 2] 3 (by simp) rfl).alloc #[.slice (some ⟨w.heap.size, 0, none⟩) 2 2, .slice (some ⟨w.heap.size + 1, 0, none⟩) 2 2, .slice (some ⟨w.heap.size + 1 + 1, 0, none⟩) 2 2] 36 (by simp) rfl
  have HT0 := Lib.hid (tab3 (h0.row (k := 3) rfl) rfl rfl rfl (h0.row (k := 0) rfl) (h0.row (k := 1) rfl) (h0.row (k := 2) rfl))
  have H0 := Lib.hid h0.below
  clear h0
  go_wp2_with fail
  rw [← hW]
  clear hW
  refine (HC1.out _ W HT0.out).mono ?_
  rintro e w1 ⟨rfl, hb1⟩
  have H1 := Lib.hid (below_step H0.out hb1)
  clear hb1 HT0 H0
  obtain ⟨V, hV⟩ : ∃ V, V = (((((w1.alloc (.cells #[.int .i64 0, .int .i64 1, .int .i64 2] 3)).alloc (.cells #[.slice (some ⟨w1.heap.size, 0, none⟩) 3 3] 36)).alloc (.cells #[] 3)).alloc (.cells #[] 3)).alloc (.cells #[] 3)).alloc (.cells #[.slice (some ⟨w1.heap.size + 1 + 1, 0, none⟩) 0 0, .slice (some ⟨w1.heap.size + 1 + 1 + 1, 0, none⟩) 0 0, .slice (some ⟨w1.heap.size + 1 + 1 + 1 + 1, 0, none⟩) 0 0] 36) := ⟨_, rfl⟩
  have h2 : HH w1 V [(w1.heap.size, rowO 3 (ints [0, 1, 2])), (w1.heap.size + 1, rowO 36 [.slice (some ⟨w1.heap.size, 0, none⟩) 3 3]), (w1.heap.size + 1 + 1, rowO 3 (ints [])), (w1.heap.size + 1 + 1 + 1, rowO 3 (ints [])), (w1.heap.size + 1 + 1 + 1 + 1, rowO 3 (ints [])), (w1.heap.size + 1 + 1 + 1 + 1 + 1, rowO 36 [.slice (some ⟨w1.heap.size + 1 + 1, 0, none⟩) 0 0, .slice (some ⟨w1.heap.size + 1 + 1 + 1, 0, none⟩) 0 0, .slice (some ⟨w1.heap.size + 1 + 1 + 1 + 1, 0, none⟩) 0 0])] [] := by
    rw [hV]; exact ((((((HH.start w1).alloc #[.int .i64 0, .int .i64 1, .int .i64 2] 3 rfl rfl).alloc #[.slice (some ⟨w1.heap.size, 0, none⟩) 3 3] 36 (by simp) rfl).alloc #[] 3 (by simp) rfl).alloc #[] 3 (by simp) rfl).alloc #[] 3 (by simp) rfl).alloc #[.slice (some ⟨w1.heap.size + 1 + 1, 0, none⟩) 0 0, .slice (some ⟨w1.heap.size + 1 + 1 + 1, 0, none⟩) 0 0, .slice (some ⟨w1.heap.size + 1 + 1 + 1 + 1, 0, none⟩) 0 0] 36 (by simp) rfl
  have HT1 := Lib.hid (tab1 (h2.row (k := 1) rfl) rfl (h2.row (k := 0) rfl))
  have HT2 := Lib.hid (tab3 (h2.row (k := 5) rfl) rfl rfl rfl (h2.row (k := 2) rfl) (h2.row (k := 3) rfl) (h2.row (k := 4) rfl))
  have H2 := Lib.hid (below_step H1.out h2.below)
  clear h2 H1
  go_wp2_with fail
  rw [← hV]
  clear hV
  refine (HC2.out _ _ V HT1.out HT2.out).mono ?_
  rintro e w3 ⟨rfl, hb3⟩
  have H3 := Lib.hid (below_step H2.out hb3)
  clear hb3
  go_wp2_with fail
  go_ret
  exact ⟨rfl, H3.out⟩
end Go.Proofs.Ytlgiponfcmeiiaa
