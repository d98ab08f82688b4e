/- The walk of quandle.Valid: is a table a quandle? -/
import Derived.Test.YtlgiponfcmeiiaaDoorAxW
namespace Go.Proofs.YtlgiponfcmeiiaaDoor
open Go Go.RowKit
theorem getD_some {T : List (List Int)} {r : Nat} (h : r < T.length) : T[r]? = some (T.getD r []) := by simp [h]
theorem qnd_and {T : List (List Int)} {n : Nat} (hn : T.length = n) (h1 : 1 ≤ n) (h30 : n ≤ 30) (hs : Shp T n) : okB (Qnd T) = (okB (IdmN (tbn T) n) && (okB (IvtN (tbn T) n) && okB (DstN (tbn T) n))) := by
  subst hn
  rw [Bool.eq_iff_iff, Bool.and_eq_true, Bool.and_eq_true, okB_iff, okB_iff, okB_iff, okB_iff]
  unfold Qnd
  rw [idm_iff hs, ivt_iff hs, dst_iff hs]
  exact ⟨fun h => h.2.2, fun h => ⟨⟨h1, h30⟩, hs, h⟩⟩
set_option maxRecDepth 100000 in
set_option maxHeartbeats 4000000 in
theorem qvalid_any (T : List (List Int)) (a : Option Addr) (c : Nat) (w : World) (hTl : T.length ≤ 1000000) (hRl : ∀ l ∈ T, l.length ≤ 1000000) (hT : TabAt w a T) :
    Calls Tryd.prog 15 #[.agg #[.slice a T.length c]] w fun e w' => e = .returned (.bool (okB (Qnd T))) ∧ Below w.heap.size w w' := by
  obtain ⟨res, hres⟩ : ∃ r, r = okB (Qnd T) := ⟨_, rfl⟩
  rw [← hres]
  have Hres := Lib.hid hres
  clear hres
  obtain ⟨n, hn⟩ : ∃ n, T.length = n := ⟨_, rfl⟩
  have Hn := Lib.hid hn
  rw [hn] at hTl
  rw [hn]
  clear hn
  obtain ⟨W, hW⟩ : ∃ W, W = w.alloc (.cells #[.slice a n c] 25) := ⟨_, rfl⟩
  have h0 : HH w W [(w.heap.size, rowO 25 [.slice a n c])] [] := by rw [hW]; exact (HH.start w).alloc #[.slice a n c] 25 rfl rfl
  have H0 := Lib.hid h0
  have HT := Lib.hid (hT.later h0.below)
  have HRl := Lib.hid hRl
  clear h0 hT hRl
  have hc0 := H0.out.cell (k := 0) (i := 0) rfl rfl
  by_cases n1 : n < 1
  · have d1 : decide ((n : Int) < 1) = true := decide_eq_true (by omega)
    have d2 : decide (n < 1) = true := decide_eq_true n1
    obtain rfl : res = false := Hres.out.trans (okB_no fun h => by have := h.1.1; have := Hn.out; omega)
    obtain rfl : n = 0 := by omega
    clear n1
    go_enter Tryd.func15, Tryd.ntmps15
    rw [hW] at hc0
    go_wp2_with fail
    rw [← hW]
    go_ret
    exact ⟨rfl, H0.out.below⟩
  by_cases n2 : 30 < n
  · have d1 : decide ((n : Int) < 1) = false := decide_eq_false (by omega)
    have d2 : decide (n < 1) = false := decide_eq_false n1
    have d3 : decide (30 < (n : Int)) = true := decide_eq_true (by omega)
    have d4 : decide (30 < n) = true := decide_eq_true n2
    obtain rfl : res = false := Hres.out.trans (okB_no fun h => by have := h.1.2; have := Hn.out; omega)
    clear n1 n2
    go_enter Tryd.func15, Tryd.ntmps15
    rw [hW] at hc0
    go_wp2_with fail
    rw [← hW]
    go_ret
    exact ⟨rfl, H0.out.below⟩
  have d1 : decide ((n : Int) < 1) = false := decide_eq_false (by omega)
  have d2 : decide (n < 1) = false := decide_eq_false n1
  have d3 : decide (30 < (n : Int)) = false := decide_eq_false (by omega)
  have d4 : decide (30 < n) = false := decide_eq_false n2
  have hn1 : 1 ≤ n := by omega
  have hn30 : n ≤ 30 := by omega
  clear n1 n2 hTl
  go_enter Tryd.func15, Tryd.ntmps15
  rw [hW] at hc0
  go_wp2_with fail
  rw [← hW]
  rw [← hW] at hc0
  clear hW d1 d2 d3 d4
  go_loopg [20] n (fun g v wr => ∃ r : Nat, r ≤ n ∧ g = n - r ∧ v = .int .i64 r ∧ W = wr ∧ ∀ x, x < r → (T.getD x []).length = n ∧ ∀ y, y < n → 0 ≤ tb T x y ∧ tb T x y < n)
  case atStart => exact ⟨0, Nat.zero_le _, rfl, rfl, rfl, fun x h => absurd h (Nat.not_lt_zero x)⟩
  case round =>
    obtain ⟨r, hr, rfl, rfl, rfl, hq⟩ := hrel
    have Hq := Lib.hid hq
    clear hq
    by_cases hrn : r < n
    · have Hg := Lib.hid (getD_some (T := T) (r := r) (by rw [Hn.out]; exact hrn))
      obtain ⟨b1, o1, a', c', rfl, hcr, hrow⟩ := HT.out.rowAt Hg.out
      have hc1 := (hrow W (Below.refl _ _)).1
      have HI := Lib.hid (hrow W (Below.refl _ _)).2
      have hll : (T.getD r []).length ≤ 1000000 := HRl.out _ (List.mem_of_getElem? Hg.out)
      clear hrow
      by_cases hln : (T.getD r []).length = n
      · have Hrw : Hid (∀ y, tb T r y = nth (T.getD r []) y) := Lib.hid fun y => rfl
        have Hln := Lib.hid hln
        rw [hln] at hc1 hcr
        clear hll hln
        obtain ⟨row, hrow⟩ : ∃ row, row = T.getD r [] := ⟨_, rfl⟩
        rw [← hrow] at HI Hrw Hln Hg
        clear hrow
        go_wp2_with fail
        go_loopg [30] n (fun g v wr => ∃ j : Nat, j ≤ n ∧ g = n - j ∧ v = .int .i64 j ∧ W = wr ∧ ∀ y, y < j → 0 ≤ tb T r y ∧ tb T r y < n)
        case atStart => exact ⟨0, Nat.zero_le _, rfl, rfl, rfl, fun x h => absurd h (Nat.not_lt_zero x)⟩
        case round =>
          obtain ⟨j, hj, rfl, rfl, rfl, hy⟩ := hrel
          have Hy := Lib.hid hy
          clear hy
          by_cases hjn : j < n
          · obtain ⟨b2, o2, rfl, _, hcR⟩ := HI.out.open (by rw [Hln.out]; omega)
            have hcx := hcR j (by rw [Hln.out]; exact hjn)
            have Hx := Lib.hid (Hrw.out j)
            clear hcR
            obtain ⟨x, hx⟩ : ∃ x, x = nth row j := ⟨_, rfl⟩
            rw [← hx] at hcx Hx
            clear hx
            by_cases x0 : x < 0
            · obtain rfl : res = false := Hres.out.trans (okB_no fun h => by
                have h1 := (h.2.1.2 r (by rw [Hn.out]; exact hrn)).2 j (by rw [Hn.out]; exact hjn)
                rw [Hx.out] at h1; omega)
              have e1 : decide (x < 0) = true := decide_eq_true x0
              clear x0
              go_wp2_with fail
              go_ret
              exact ⟨rfl, H0.out.below⟩
            · have e1 : decide (x < 0) = false := decide_eq_false x0
              by_cases x1 : (n : Int) ≤ x
              · obtain rfl : res = false := Hres.out.trans (okB_no fun h => by
                  have h1 := (h.2.1.2 r (by rw [Hn.out]; exact hrn)).2 j (by rw [Hn.out]; exact hjn)
                  rw [Hx.out, Hn.out] at h1; omega)
                have e2 : decide ((n : Int) ≤ x) = true := decide_eq_true x1
                clear x0 x1
                go_wp2_with fail
                go_ret
                exact ⟨rfl, H0.out.below⟩
              · have e2 : decide ((n : Int) ≤ x) = false := decide_eq_false x1
                have Hy2 : Hid (∀ y, y < j + 1 → 0 ≤ tb T r y ∧ tb T r y < n) := Lib.hid fun y h => by
                  rcases Nat.lt_or_ge y j with g | g
                  · exact Hy.out y g
                  · rw [show y = j by omega, Hx.out]; omega
                clear x0 x1
                go_wp2_with fail
                go_roundg (n - (j + 1))
                case measure => omega
                case rel => exact ⟨j + 1, by omega, rfl, by go_num, rfl, Hy2.out⟩
          · obtain rfl : j = n := by omega
            have Hq2 : Hid (∀ x, x < r + 1 → (T.getD x []).length = j ∧ ∀ y, y < j → 0 ≤ tb T x y ∧ tb T x y < j) := Lib.hid fun x h => by
              rcases Nat.lt_or_ge x r with g | g
              · exact Hq.out x g
              · obtain rfl : x = r := by omega
                have : T.getD x [] = row := by rw [List.getD_eq_getElem?_getD, Hg.out]; rfl
                rw [this]
                exact ⟨Hln.out, Hy.out⟩
            go_wp2_with fail
            go_roundg (j - (r + 1))
            case measure => omega
            case rel => exact ⟨r + 1, by omega, rfl, by go_num, rfl, Hq2.out⟩
      · obtain rfl : res = false := Hres.out.trans (okB_no fun h => hln (by
          have h1 := (h.2.1.2 r (by rw [Hn.out]; exact hrn)).1
          rw [Hn.out] at h1; exact h1))
        have e1 : (((T.getD r []).length : Int) != (n : Int)) = true := by rw [bne_iff_ne]; omega
        have e2 : ((T.getD r []).length != n) = true := by rw [bne_iff_ne]; exact hln
        clear hln HI
        generalize (T.getD r []).length = L at *
        go_wp2_with fail
        go_ret
        exact ⟨rfl, H0.out.below⟩
    · obtain rfl : r = n := by omega
      have hsh : Shp T r := ⟨Hn.out, fun x hx => Hq.out x hx⟩
      obtain ⟨b, o, P, Q, C, rfl, hG⟩ := grd_of HT.out hn1 hsh
      have Hres2 := Lib.hid (Hres.out.trans (qnd_and Hn.out hn1 hn30 hsh))
      have H1 : Hid (∀ W', Below W.heap.size W W' → Calls Tryd.prog 25 #[.slice (some ⟨b, o, none⟩) r c] W' fun e w' => e = .returned (.bool (okB (IdmN (tbn T) r))) ∧ Below W'.heap.size W' w') := Lib.hid fun W' h => idem_any b o P Q C r (tbn T) c W' hn30 (hG.later h)
      have H2 : Hid (∀ W', Below W.heap.size W W' → Calls Tryd.prog 26 #[.slice (some ⟨b, o, none⟩) r c] W' fun e w' => e = .returned (.bool (okB (IvtN (tbn T) r))) ∧ Below W'.heap.size W' w') := Lib.hid fun W' h => invt_any b o P Q C r (tbn T) c W' hn30 (hG.later h)
      have H3 : Hid (∀ W', Below W.heap.size W W' → Calls Tryd.prog 27 #[.slice (some ⟨b, o, none⟩) r c] W' fun e w' => e = .returned (.bool (okB (DstN (tbn T) r))) ∧ Below W'.heap.size W' w') := Lib.hid fun W' h => dist_any b o P Q C r (tbn T) c W' hn30 (hG.later h)
      clear hG hsh
      generalize okB (IdmN (tbn T) r) = r1 at *
      generalize okB (IvtN (tbn T) r) = r2 at *
      generalize okB (DstN (tbn T) r) = r3 at *
      go_wp2_with fail
      refine (H1.out W (Below.refl _ _)).mono ?_
      rintro e w1 ⟨rfl, hb⟩
      have Hb1 := Lib.hid hb
      have K1 := Lib.hid (H0.out.call hb)
      have hc0 := K1.out.cell (k := 0) (i := 0) rfl rfl
      clear hb
      cases r1 with
      | false =>
        obtain rfl : res = false := Hres2.out
        go_wp2_with fail
        go_ret
        exact ⟨rfl, K1.out.below⟩
      | true =>
        go_wp2_with fail
        refine (H2.out w1 Hb1.out).mono ?_
        rintro e w2 ⟨rfl, hb⟩
        have Hb2 := Lib.hid (below_of Hb1.out hb Hb1.out.size)
        have K2 := Lib.hid (K1.out.call hb)
        have hc0 := K2.out.cell (k := 0) (i := 0) rfl rfl
        clear hb
        cases r2 with
        | false =>
          obtain rfl : res = false := Hres2.out
          go_wp2_with fail
          go_ret
          exact ⟨rfl, K2.out.below⟩
        | true =>
          go_wp2_with fail
          refine (H3.out w2 Hb2.out).mono ?_
          rintro e w3 ⟨rfl, hb⟩
          have K3 := Lib.hid (K2.out.call hb)
          clear hb
          obtain rfl : res = r3 := Hres2.out
          go_wp2_with fail
          go_ret
          exact ⟨rfl, K3.out.below⟩
end Go.Proofs.YtlgiponfcmeiiaaDoor
