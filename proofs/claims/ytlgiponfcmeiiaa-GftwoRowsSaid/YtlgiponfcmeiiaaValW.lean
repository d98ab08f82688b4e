/- The walks of both Valid of layer 40: is a matrix valid? -/
import Derived.Test.YtlgiponfcmeiiaaAddW
namespace Go.Proofs.Ytlgiponfcmeiiaa
open Go Go.RowKit
def ascF (C : Int) : Int → List Int → Bool
  | _, [] => true
  | last, c :: l => decide (last < c ∧ c < C) && ascF C c l
/-- Is a matrix valid? -/
def vldM (C : Int) (T : List (List Int)) : Bool := decide (0 ≤ C ∧ C ≤ 65536 ∧ T.length ≤ 65536) && T.all (ascF C (-1))
theorem ascF_nil (C last : Int) : ascF C last [] = true := rfl
theorem ascF_cons (C last c : Int) (l : List Int) : ascF C last (c :: l) = (decide (last < c ∧ c < C) && ascF C c l) := rfl
theorem ascF_iff {C : Int} : ∀ {last : Int} {l : List Int}, ascF C last l = true ↔ l.Pairwise (· < ·) ∧ ∀ x ∈ l, last < x ∧ x < C
  | last, [] => by simp [ascF_nil]
  | last, c :: l => by
    rw [ascF_cons, Bool.and_eq_true, decide_eq_true_eq, ascF_iff (last := c) (l := l), List.pairwise_cons]
    constructor
    · rintro ⟨h1, h2, h3⟩
      refine ⟨⟨fun x hx => (h3 x hx).1, h2⟩, fun x hx => ?_⟩
      rcases List.mem_cons.1 hx with e | e
      · subst e; exact h1
      · have := h3 x e; omega
    · rintro ⟨⟨h1, h2⟩, h3⟩
      exact ⟨h3 c List.mem_cons_self, h2, fun x hx => ⟨h1 x hx, (h3 x (List.mem_cons_of_mem _ hx)).2⟩⟩
theorem ascF_asc {C : Int} {l : List Int} : ascF C (-1) l = true ↔ Asc C l := by
  rw [ascF_iff]
  exact ⟨fun ⟨h1, h2⟩ => ⟨h1, fun x hx => by have := h2 x hx; omega⟩, fun ⟨h1, h2⟩ => ⟨h1, fun x hx => by have := h2 x hx; omega⟩⟩
theorem vldM_iff {C : Int} {T : List (List Int)} : vldM C T = true ↔ (0 ≤ C ∧ C ≤ 65536 ∧ T.length ≤ 65536) ∧ ∀ l ∈ T, Asc C l := by
  unfold vldM
  rw [Bool.and_eq_true, decide_eq_true_eq, List.all_eq_true]
  exact and_congr_right fun _ => ⟨fun h l hl => ascF_asc.1 (h l hl), fun h l hl => ascF_asc.2 (h l hl)⟩
theorem vldM_no {C : Int} {T : List (List Int)} (h : ¬ (0 ≤ C ∧ C ≤ 65536 ∧ T.length ≤ 65536)) : vldM C T = false := by
  unfold vldM; rw [decide_eq_false h]; rfl
theorem vldM_all {C : Int} {T : List (List Int)} (h : 0 ≤ C ∧ C ≤ 65536 ∧ T.length ≤ 65536) : vldM C T = T.all (ascF C (-1)) := by
  unfold vldM; rw [decide_eq_true h]; rfl
theorem drop_consG {α : Type} [Inhabited α] (l : List α) (i : Nat) (h : i < l.length) : ∃ x, l[i]? = some x ∧ l.drop i = x :: l.drop (i + 1) := ⟨l[i], by simp [h], List.drop_eq_getElem_cons h⟩
set_option maxRecDepth 100000 in
set_option maxHeartbeats 4000000 in
theorem valid_any (C : Int) (T : List (List Int)) (a : Option Addr) (c : Nat) (w : World) (hTl : T.length ≤ 1000000) (hRl : ∀ l ∈ T, l.length ≤ 1000000) (hC : -9223372036854775808 ≤ C ∧ C ≤ 9223372036854775807) (hT : TabAt w a T) :
    Calls Try.prog 16 #[.agg #[.int .i64 C, .slice a T.length c]] w fun e w' => e = .returned (.bool (vldM C T)) ∧ Below w.heap.size w w' := by
  obtain ⟨W, hW⟩ : ∃ W, W = w.alloc (.cells #[.int .i64 C, .slice a T.length c] 26) := ⟨_, rfl⟩
  have h0 : HH w W [(w.heap.size, rowO 26 [.int .i64 C, .slice a T.length c])] [] := by rw [hW]; exact (HH.start w).alloc #[.int .i64 C, .slice a T.length c] 26 rfl rfl
  have H0 := Lib.hid h0
  have HT := Lib.hid (hT.later h0.below)
  clear h0 hT
  have HRl := Lib.hid hRl
  clear hRl
  obtain ⟨res, hres⟩ : ∃ r, r = vldM C T := ⟨_, rfl⟩
  rw [← hres]
  have Hres := Lib.hid hres
  clear hres
  by_cases n1 : C < 0
  · have d1 : decide (C < 0) = true := decide_eq_true n1
    obtain rfl : res = false := by rw [Hres.out]; exact vldM_no (by omega)
    clear n1
    go_enter Try.func16, Try.ntmps16
    have hc0_0 := H0.out.cell (k := 0) (i := 0) rfl rfl
    have hc0_1 := H0.out.cell (k := 0) (i := 1) rfl rfl
    rw [hW] at hc0_0 hc0_1
    go_wp2_with fail
    rw [← hW]
    go_ret
    exact ⟨rfl, H0.out.below⟩
  by_cases n2 : 65536 < C
  · have d1 : decide (C < 0) = false := decide_eq_false n1
    have d2 : decide (65536 < C) = true := decide_eq_true n2
    obtain rfl : res = false := by rw [Hres.out]; exact vldM_no (by omega)
    clear n1 n2
    go_enter Try.func16, Try.ntmps16
    have hc0_0 := H0.out.cell (k := 0) (i := 0) rfl rfl
    have hc0_1 := H0.out.cell (k := 0) (i := 1) rfl rfl
    rw [hW] at hc0_0 hc0_1
    go_wp2_with fail
    rw [← hW]
    go_ret
    exact ⟨rfl, H0.out.below⟩
  by_cases n3 : 65536 < T.length
  · have d1 : decide (C < 0) = false := decide_eq_false n1
    have d2 : decide (65536 < C) = false := decide_eq_false n2
    have d3 : decide (65536 < (T.length : Int)) = true := decide_eq_true (by omega)
    obtain rfl : res = false := by rw [Hres.out]; exact vldM_no (by omega)
    clear n1 n2 n3
    go_enter Try.func16, Try.ntmps16
    have hc0_0 := H0.out.cell (k := 0) (i := 0) rfl rfl
    have hc0_1 := H0.out.cell (k := 0) (i := 1) rfl rfl
    rw [hW] at hc0_0 hc0_1
    go_wp2_with fail
    rw [← hW]
    go_ret
    exact ⟨rfl, H0.out.below⟩
  have d1 : decide (C < 0) = false := decide_eq_false n1
  have d2 : decide (65536 < C) = false := decide_eq_false n2
  have d3 : decide (65536 < (T.length : Int)) = false := decide_eq_false (by omega)
  have Hall : Hid (T.all (ascF C (-1)) = res) := Lib.hid (by rw [Hres.out, vldM_all (by omega)])
  have HC0 : Hid (0 ≤ C) := Lib.hid (by omega)
  clear n1 n2 n3 hTl Hres
  have hT2 : T.length ≤ 65536 := by
    have := of_decide_eq_false d3; omega
  go_enter Try.func16, Try.ntmps16
  have hc0_0 := H0.out.cell (k := 0) (i := 0) rfl rfl
  have hc0_1 := H0.out.cell (k := 0) (i := 1) rfl rfl
  rw [hW] at hc0_0 hc0_1
  go_wp2_with fail
  rw [← hW]
  clear hW hc0_0 hc0_1
  have hc0_0 := H0.out.cell (k := 0) (i := 0) rfl rfl
  have hc0_1 := H0.out.cell (k := 0) (i := 1) rfl rfl
  have HC65 : Hid (C ≤ 65536) := Lib.hid (by have := of_decide_eq_false d2; omega)
  clear d1 d2 d3
  go_loopg [25] T.length (fun g v wr => ∃ r : Nat, r ≤ T.length ∧ g = T.length - r ∧ v = .int .i64 r ∧ W = wr ∧ (T.drop r).all (ascF C (-1)) = res)
  case atStart => exact ⟨0, Nat.zero_le _, rfl, rfl, rfl, Hall.out⟩
  case round =>
    obtain ⟨r, hr, rfl, rfl, rfl, hq⟩ := hrel
    have Hq := Lib.hid hq
    clear hq Hall
    by_cases hrl : r < T.length
    · obtain ⟨row, hrow, hdr⟩ := drop_consG T r hrl
      obtain ⟨b1, o1, rfl, _, hcT⟩ := HT.out.open (by omega)
      obtain ⟨a', c', hc1, _, hI⟩ := hcT r row hrow
      have HI := Lib.hid hI
      have hrowl := HRl.out row (List.mem_of_getElem? hrow)
      have Hq2 : Hid ((ascF C (-1) row && (T.drop (r + 1)).all (ascF C (-1))) = res) := Lib.hid (by rw [← Hq.out, hdr, List.all_cons])
      clear hcT hI hrow hdr Hq
      go_wp2_with fail
      go_loopg [5, 31] row.length (fun g u v wr => ∃ (j : Nat) (last : Int), j ≤ row.length ∧ g = row.length - j ∧ v = .int .i64 j ∧ u = .int .i64 last ∧ W = wr ∧ -1 ≤ last ∧ last ≤ 65536 ∧ True ∧ (ascF C last (row.drop j) && (T.drop (r + 1)).all (ascF C (-1))) = res)
      case atStart => exact ⟨0, -1, Nat.zero_le _, rfl, rfl, rfl, rfl, by omega, by omega, trivial, Hq2.out⟩
      case round =>
        obtain ⟨j, last, hj, rfl, rfl, rfl, rfl, hl1, hl2, hlj, hq⟩ := hrel
        have Hq := Lib.hid hq
        have Hlj := Lib.hid hlj
        clear hq Hq2 hlj
        by_cases hjl : j < row.length
        · obtain ⟨b2, o2, rfl, _, hcR⟩ := HI.out.open (by omega)
          have hc2 := hcR j hjl
          have Hq3 : Hid ((ascF C last (nth row j :: row.drop (j + 1)) && (T.drop (r + 1)).all (ascF C (-1))) = res) := Lib.hid (by rw [← Hq.out, drop_cons row j hjl])
          clear hcR Hq
          generalize nth row j = x at *
          by_cases ok1 : x ≤ last
          · obtain rfl : res = false := by rw [← Hq3.out, ascF_cons, decide_eq_false (by omega)]; rfl
            have e1 : decide (x ≤ last) = true := decide_eq_true ok1
            clear ok1
            go_wp2_with fail
            go_ret
            exact ⟨rfl, H0.out.below⟩
          · by_cases ok2 : C ≤ x
            · obtain rfl : res = false := by rw [← Hq3.out, ascF_cons, decide_eq_false (by omega)]; rfl
              have e1 : decide (x ≤ last) = false := decide_eq_false ok1
              have e2 : decide (C ≤ x) = true := decide_eq_true ok2
              clear ok1 ok2
              go_wp2_with fail
              go_ret
              exact ⟨rfl, H0.out.below⟩
            · have e1 : decide (x ≤ last) = false := decide_eq_false ok1
              have e2 : decide (C ≤ x) = false := decide_eq_false ok2
              have Hx : Hid (-1 ≤ x ∧ x ≤ 65536) := Lib.hid (by have := HC65.out; omega)
              have Hq4 : Hid ((ascF C x (row.drop (j + 1)) && (T.drop (r + 1)).all (ascF C (-1))) = res) := Lib.hid (by rw [← Hq3.out, ascF_cons, decide_eq_true (by omega)]; rfl)
              clear ok1 ok2
              go_wp2_with fail
              go_roundg (row.length - (j + 1))
              case measure => omega
              case rel => exact ⟨j + 1, x, by omega, rfl, by go_num, rfl, rfl, Hx.out.1, Hx.out.2, trivial, Hq4.out⟩
        · obtain rfl : j = row.length := by omega
          have Hq4 : Hid ((T.drop (r + 1)).all (ascF C (-1)) = res) := Lib.hid (by rw [← Hq.out, List.drop_eq_nil_of_le (Nat.le_refl _), ascF_nil, Bool.true_and])
          clear Hq
          go_wp2_with fail
          go_roundg (T.length - (r + 1))
          case measure => omega
          case rel => exact ⟨r + 1, by omega, rfl, by go_num, rfl, Hq4.out⟩
    · obtain rfl : r = T.length := by omega
      obtain rfl : res = true := by rw [← Hq.out, List.drop_eq_nil_of_le (Nat.le_refl _)]; rfl
      go_wp2_with fail
      go_ret
      exact ⟨rfl, H0.out.below⟩
set_option maxRecDepth 100000 in
set_option maxHeartbeats 4000000 in
theorem rvalid_any (C : Int) (T : List (List Int)) (a : Option Addr) (c : Nat) (w : World) (hTl : T.length ≤ 1000000) (hRl : ∀ l ∈ T, l.length ≤ 1000000) (hC : -9223372036854775808 ≤ C ∧ C ≤ 9223372036854775807) (hT : TabAt w a T) :
    Calls Try.prog 15 #[.int .i64 C, .slice a T.length c] w fun e w' => e = .returned (.bool (vldM C T)) ∧ Below w.heap.size w w' := by
  have HT := Lib.hid hT
  clear hT
  have HRl := Lib.hid hRl
  clear hRl
  obtain ⟨res, hres⟩ : ∃ r, r = vldM C T := ⟨_, rfl⟩
  rw [← hres]
  have Hres := Lib.hid hres
  clear hres
  by_cases n1 : C < 0
  · have d1 : decide (C < 0) = true := decide_eq_true n1
    obtain rfl : res = false := by rw [Hres.out]; exact vldM_no (by omega)
    clear n1
    go_enter Try.func15, Try.ntmps15
    go_wp2_with fail
    go_ret
    exact ⟨rfl, Below.refl _ _⟩
  by_cases n2 : 65536 < C
  · have d1 : decide (C < 0) = false := decide_eq_false n1
    have d2 : decide (65536 < C) = true := decide_eq_true n2
    obtain rfl : res = false := by rw [Hres.out]; exact vldM_no (by omega)
    clear n1 n2
    go_enter Try.func15, Try.ntmps15
    go_wp2_with fail
    go_ret
    exact ⟨rfl, Below.refl _ _⟩
  by_cases n3 : 65536 < T.length
  · have d1 : decide (C < 0) = false := decide_eq_false n1
    have d2 : decide (65536 < C) = false := decide_eq_false n2
    have d3 : decide (65536 < (T.length : Int)) = true := decide_eq_true (by omega)
    obtain rfl : res = false := by rw [Hres.out]; exact vldM_no (by omega)
    clear n1 n2 n3
    go_enter Try.func15, Try.ntmps15
    go_wp2_with fail
    go_ret
    exact ⟨rfl, Below.refl _ _⟩
  have d1 : decide (C < 0) = false := decide_eq_false n1
  have d2 : decide (65536 < C) = false := decide_eq_false n2
  have d3 : decide (65536 < (T.length : Int)) = false := decide_eq_false (by omega)
  have Hall : Hid (T.all (ascF C (-1)) = res) := Lib.hid (by rw [Hres.out, vldM_all (by omega)])
  have HC0 : Hid (0 ≤ C) := Lib.hid (by omega)
  clear n1 n2 n3 hTl Hres
  have hT2 : T.length ≤ 65536 := by
    have := of_decide_eq_false d3; omega
  go_enter Try.func15, Try.ntmps15
  go_wp2_with fail
  have HC65 : Hid (C ≤ 65536) := Lib.hid (by have := of_decide_eq_false d2; omega)
  clear d1 d2 d3
  go_loopg [5] T.length (fun g v wr => ∃ r : Nat, r ≤ T.length ∧ g = T.length - r ∧ v = .int .i64 r ∧ w = wr ∧ (T.drop r).all (ascF C (-1)) = res)
  case atStart => exact ⟨0, Nat.zero_le _, rfl, rfl, rfl, Hall.out⟩
  case round =>
    obtain ⟨r, hr, rfl, rfl, rfl, hq⟩ := hrel
    have Hq := Lib.hid hq
    clear hq Hall
    by_cases hrl : r < T.length
    · obtain ⟨row, hrow, hdr⟩ := drop_consG T r hrl
      obtain ⟨b1, o1, rfl, _, hcT⟩ := HT.out.open (by omega)
      obtain ⟨a', c', hc1, _, hI⟩ := hcT r row hrow
      have HI := Lib.hid hI
      have hrowl := HRl.out row (List.mem_of_getElem? hrow)
      have Hq2 : Hid ((ascF C (-1) row && (T.drop (r + 1)).all (ascF C (-1))) = res) := Lib.hid (by rw [← Hq.out, hdr, List.all_cons])
      clear hcT hI hrow hdr Hq
      go_wp2_with fail
      go_loopg [6] row.length (fun g v wr => ∃ (j : Nat) (last : Int), j ≤ row.length ∧ g = row.length - j ∧ v = .int .i64 j ∧ w = wr ∧ -1 ≤ last ∧ last ≤ 65536 ∧ ((j = 0 → last = -1) ∧ (∀ i, j = i + 1 → last = nth row i ∧ 0 ≤ last)) ∧ (ascF C last (row.drop j) && (T.drop (r + 1)).all (ascF C (-1))) = res)
      case atStart => exact ⟨0, -1, Nat.zero_le _, rfl, rfl, rfl, by omega, by omega, ⟨fun _ => rfl, fun i h => by omega⟩, Hq2.out⟩
      case round =>
        obtain ⟨j, last, hj, rfl, rfl, rfl, hl1, hl2, hlj, hq⟩ := hrel
        have Hq := Lib.hid hq
        have Hlj := Lib.hid hlj
        clear hq Hq2 hlj
        by_cases hjl : j < row.length
        · obtain ⟨b2, o2, rfl, _, hcR⟩ := HI.out.open (by omega)
          have hc2 := hcR j hjl
          have Hq3 : Hid ((ascF C last (nth row j :: row.drop (j + 1)) && (T.drop (r + 1)).all (ascF C (-1))) = res) := Lib.hid (by rw [← Hq.out, drop_cons row j hjl])
          have Hnx0 : Hid (nth row j = nth row j) := Lib.hid rfl
          rcases Nat.eq_zero_or_pos j with hj0 | hj0
          · subst hj0
            obtain rfl := Hlj.out.1 rfl
            clear hcR Hq Hlj
            obtain ⟨x, hx⟩ : ∃ x, x = nth row 0 := ⟨_, rfl⟩
            rw [← hx] at Hq3 hc2
            rw [Nat.add_zero] at hc2
            have Hnx := Lib.hid hx
            clear hx Hnx0
            by_cases ok1 : x ≤ -1
            · obtain rfl : res = false := by rw [← Hq3.out, ascF_cons, decide_eq_false (by omega)]; rfl
              have e0 : decide (x < 0) = true := decide_eq_true (by omega)
              clear ok1
              go_wp2_with fail
              go_ret
              exact ⟨rfl, Below.refl _ _⟩
            · by_cases ok2 : C ≤ x
              · obtain rfl : res = false := by rw [← Hq3.out, ascF_cons, decide_eq_false (by omega)]; rfl
                have e0 : decide (x < 0) = false := decide_eq_false (by omega)
                have e2 : decide (C ≤ x) = true := decide_eq_true ok2
                clear ok1 ok2
                go_wp2_with fail
                go_ret
                exact ⟨rfl, Below.refl _ _⟩
              · have e0 : decide (x < 0) = false := decide_eq_false (by omega)
                have e2 : decide (C ≤ x) = false := decide_eq_false ok2
                have Hx : Hid (0 ≤ x ∧ x ≤ 65536) := Lib.hid (by have := HC65.out; omega)
                have Hq4 : Hid ((ascF C x (row.drop (0 + 1)) && (T.drop (r + 1)).all (ascF C (-1))) = res) := Lib.hid (by rw [← Hq3.out, ascF_cons, decide_eq_true (by omega)]; rfl)
                clear ok1 ok2
                go_wp2_with fail
                go_roundg (row.length - (0 + 1))
                case measure => omega
                case rel => exact ⟨0 + 1, x, by omega, rfl, by go_num, rfl, by have := Hx.out; omega, Hx.out.2, ⟨fun h => by omega, fun i h => ⟨by rw [show i = 0 from by omega]; exact Hnx.out, Hx.out.1⟩⟩, Hq4.out⟩
          · obtain ⟨i0, rfl⟩ : ∃ i0, j = i0 + 1 := ⟨j - 1, by omega⟩
            obtain ⟨hl3, hl4⟩ := Hlj.out.2 i0 rfl
            have hc3 := hcR i0 (by omega)
            rw [← hl3] at hc3
            have hj5 : ((i0 + 1 : Nat) : Int) - 1 = (i0 : Int) := by omega
            clear hcR Hq Hlj hl3 Hnx0
            obtain ⟨x, hx⟩ : ∃ x, x = nth row (i0 + 1) := ⟨_, rfl⟩
            rw [← hx] at Hq3 hc2
            have Hnx := Lib.hid hx
            clear hx
            by_cases ok1 : x ≤ last
            · obtain rfl : res = false := by rw [← Hq3.out, ascF_cons, decide_eq_false (by omega)]; rfl
              by_cases ok0 : x < 0
              · have e0 : decide (x < 0) = true := decide_eq_true ok0
                clear ok1 ok0
                go_wp2_with fail
                go_ret
                exact ⟨rfl, Below.refl _ _⟩
              · have e0 : decide (x < 0) = false := decide_eq_false ok0
                by_cases ok2 : C ≤ x
                · have e2 : decide (C ≤ x) = true := decide_eq_true ok2
                  clear ok1 ok0 ok2
                  go_wp2_with fail
                  go_ret
                  exact ⟨rfl, Below.refl _ _⟩
                · have e2 : decide (C ≤ x) = false := decide_eq_false ok2
                  have e1 : decide (x ≤ last) = true := decide_eq_true ok1
                  clear ok1 ok0 ok2
                  go_wp2_with fail
                  go_ret
                  exact ⟨rfl, Below.refl _ _⟩
            · by_cases ok2 : C ≤ x
              · obtain rfl : res = false := by rw [← Hq3.out, ascF_cons, decide_eq_false (by omega)]; rfl
                have e0 : decide (x < 0) = false := decide_eq_false (by omega)
                have e2 : decide (C ≤ x) = true := decide_eq_true ok2
                clear ok1 ok2
                go_wp2_with fail
                go_ret
                exact ⟨rfl, Below.refl _ _⟩
              · have e0 : decide (x < 0) = false := decide_eq_false (by omega)
                have e2 : decide (C ≤ x) = false := decide_eq_false ok2
                have e1 : decide (x ≤ last) = false := decide_eq_false ok1
                have Hx : Hid (0 ≤ x ∧ x ≤ 65536) := Lib.hid (by have := HC65.out; omega)
                have Hq4 : Hid ((ascF C x (row.drop (i0 + 1 + 1)) && (T.drop (r + 1)).all (ascF C (-1))) = res) := Lib.hid (by rw [← Hq3.out, ascF_cons, decide_eq_true (by omega)]; rfl)
                clear ok1 ok2
                go_wp2_with fail
                go_roundg (row.length - (i0 + 1 + 1))
                case measure => omega
                case rel => exact ⟨i0 + 1 + 1, x, by omega, rfl, by go_num, rfl, by have := Hx.out; omega, Hx.out.2, ⟨fun h => by omega, fun i h => ⟨by rw [show i = i0 + 1 from by omega]; exact Hnx.out, Hx.out.1⟩⟩, Hq4.out⟩
        · obtain rfl : j = row.length := by omega
          have Hq4 : Hid ((T.drop (r + 1)).all (ascF C (-1)) = res) := Lib.hid (by rw [← Hq.out, List.drop_eq_nil_of_le (Nat.le_refl _), ascF_nil, Bool.true_and])
          clear Hq
          go_wp2_with fail
          go_roundg (T.length - (r + 1))
          case measure => omega
          case rel => exact ⟨r + 1, by omega, rfl, by go_num, rfl, Hq4.out⟩
    · obtain rfl : r = T.length := by omega
      obtain rfl : res = true := by rw [← Hq.out, List.drop_eq_nil_of_le (Nat.le_refl _)]; rfl
      go_wp2_with fail
      go_ret
      exact ⟨rfl, Below.refl _ _⟩
end Go.Proofs.Ytlgiponfcmeiiaa
