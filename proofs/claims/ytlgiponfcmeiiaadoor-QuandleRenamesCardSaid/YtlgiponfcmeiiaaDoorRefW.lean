/- The walks of the reference's Inverse and Valid, and of quandle.Orbits where the table is no quandle. -/
import Derived.Test.YtlgiponfcmeiiaaDoorLInv
namespace Go.Proofs.YtlgiponfcmeiiaaDoor
open Go Go.RowKit
/-- Where each column holds each element, each column holds it once. -/
theorem ivt_of_onto {f : Nat → Nat → Nat} {n y : Nat} (h : ∀ x, x < n → ∃ z, z < n ∧ f z y = x) : ∀ x z, x < n → z < n → f x y = f z y → x = z := by
  intro x z hx hz e
  refine Classical.byContradiction fun hne => ?_
  have hs : ∀ v ∈ List.range n, v ∈ ((List.range n).erase z).map fun u => f u y := fun v hv => by
    obtain ⟨u, hu, he⟩ := h v (List.mem_range.1 hv)
    by_cases huz : u = z
    · refine List.mem_map.2 ⟨x, ?_, by rw [e, ← huz, he]⟩
      rw [List.Nodup.mem_erase_iff List.nodup_range]
      exact ⟨hne, List.mem_range.2 hx⟩
    · refine List.mem_map.2 ⟨u, ?_, he⟩
      rw [List.Nodup.mem_erase_iff List.nodup_range]
      exact ⟨huz, List.mem_range.2 hu⟩
  have hl := (List.nodup_range (n := n)).length_le_of_subset hs
  rw [List.length_map, List.length_range, List.length_erase_of_mem (List.mem_range.2 hz), List.length_range] at hl
  omega
set_option maxRecDepth 100000 in
set_option maxHeartbeats 4000000 in
theorem rinv_yes (b o : Nat) (P Q C : Nat → Nat) (n : Nat) (f : Nat → Nat → Nat) (c x y : Nat) (w : World) (hn : n ≤ 30) (hG : Grd w b o P Q C n f) (hy : y < n) (z : Nat) (hz : z < n) (hzx : f z y = x) (hm : ∀ u, u < z → f u y ≠ x) :
    Calls Tryd.prog 28 #[.slice (some ⟨b, o, none⟩) n c, .int .i64 x, .int .i64 y] w fun e w' => e = .returned (.int .i64 (z : Nat)) ∧ Below w.heap.size w w' := by
  have HG := Lib.hid hG
  have Hm := Lib.hid hm
  clear hG hm
  go_enter Tryd.func28, Tryd.ntmps28
  go_wp2_with fail
  go_loopg [7] n (fun g v wr => ∃ i : Nat, i ≤ z ∧ g = n - i ∧ v = .int .i64 i ∧ w = wr)
  case atStart => exact ⟨0, Nat.zero_le _, rfl, rfl, rfl⟩
  case round =>
    obtain ⟨i, hi, rfl, rfl, rfl⟩ := hrel
    by_cases hiz : i < z
    · have hin : i < n := by omega
      have h1 := HG.out.row i hin
      have h2 := HG.out.el i y hin hy
      have he := Hm.out i hiz
      have d1 : ((f i y : Int) == (x : Int)) = false := by rw [beq_eq_false_iff_ne]; omega
      have d2 : (f i y == x) = false := by rw [beq_eq_false_iff_ne]; exact he
      clear he
      generalize f i y = p at *
      go_wp2_with fail
      go_roundg (n - (i + 1))
      case measure => omega
      case rel => exact ⟨i + 1, by omega, rfl, by go_num, rfl⟩
    · obtain rfl : i = z := by omega
      have h1 := HG.out.row i hz
      have h2 := HG.out.el i y hz hy
      rw [hzx] at h2
      clear hzx
      go_wp2_with fail
      go_ret
      exact ⟨rfl, Below.refl _ _⟩
set_option maxRecDepth 100000 in
set_option maxHeartbeats 4000000 in
theorem rinv_no (b o : Nat) (P Q C : Nat → Nat) (n : Nat) (f : Nat → Nat → Nat) (c x y : Nat) (w : World) (hn : n ≤ 30) (hG : Grd w b o P Q C n f) (hy : y < n) (hm : ∀ u, u < n → f u y ≠ x) :
    Calls Tryd.prog 28 #[.slice (some ⟨b, o, none⟩) n c, .int .i64 x, .int .i64 y] w fun e w' => e = .returned (.int .i64 (-1)) ∧ Below w.heap.size w w' := by
  have HG := Lib.hid hG
  have Hm := Lib.hid hm
  clear hG hm
  go_enter Tryd.func28, Tryd.ntmps28
  go_wp2_with fail
  go_loopg [7] n (fun g v wr => ∃ i : Nat, i ≤ n ∧ g = n - i ∧ v = .int .i64 i ∧ w = wr)
  case atStart => exact ⟨0, Nat.zero_le _, rfl, rfl, rfl⟩
  case round =>
    obtain ⟨i, hi, rfl, rfl, rfl⟩ := hrel
    by_cases hiz : i < n
    · have hin : i < n := by omega
      have h1 := HG.out.row i hin
      have h2 := HG.out.el i y hin hy
      have he := Hm.out i hiz
      have d1 : ((f i y : Int) == (x : Int)) = false := by rw [beq_eq_false_iff_ne]; omega
      have d2 : (f i y == x) = false := by rw [beq_eq_false_iff_ne]; exact he
      clear he
      generalize f i y = p at *
      go_wp2_with fail
      go_roundg (n - (i + 1))
      case measure => omega
      case rel => exact ⟨i + 1, by omega, rfl, by go_num, rfl⟩
    · obtain rfl : i = n := by omega
      go_wp2_with fail
      go_ret
      exact ⟨rfl, Below.refl _ _⟩
theorem first_lt {p : Nat → Prop} {n : Nat} (h : ∃ z, z < n ∧ p z) : ∃ z, z < n ∧ p z ∧ ∀ u, u < z → ¬ p u := by
  obtain ⟨z, hz, hp⟩ := h
  induction z using Nat.strongRecOn with
  | ind z ih =>
    by_cases g : ∃ u, u < z ∧ p u
    · obtain ⟨u, hu, hpu⟩ := g
      exact ih u hu (by omega) hpu
    · exact ⟨z, hz, hp, fun u hu hpu => g ⟨u, hu, hpu⟩⟩
/-- What the reference asks of column y. -/
def ColN (f : Nat → Nat → Nat) (n y : Nat) : Prop := f y y = y ∧ ∀ x, x < n → (∃ z, z < n ∧ f z y = x) ∧ ∀ z, z < n → f (f x y) z = f (f x z) (f y z)
theorem col_qnd {T : List (List Int)} {n : Nat} (hn : T.length = n) (h1 : 1 ≤ n) (h30 : n ≤ 30) (hs : Shp T n) : Qnd T ↔ ∀ y, y < n → ColN (tbn T) n y := by
  have hlt : ∀ x y, x < n → y < n → tbn T x y < n := fun x y hx hy => (tb_tbn hs hx hy).2
  subst hn
  unfold Qnd
  rw [idm_iff hs, ivt_iff hs, dst_iff hs]
  constructor
  · rintro ⟨_, _, hi, hv, hd⟩ y hy
    exact ⟨hi y hy, fun x hx => ⟨qnd_onto hlt hv hx hy, fun z hz => hd x hx y hy z hz⟩⟩
  · intro h
    exact ⟨⟨h1, h30⟩, hs, fun x hx => (h x hx).1, fun y hy => ivt_of_onto fun x hx => ((h y hy).2 x hx).1, fun x hx y hy z hz => ((h y hy).2 x hx).2 z hz⟩
set_option maxRecDepth 100000 in
set_option maxHeartbeats 4000000 in
theorem rcol_any (b o : Nat) (P Q C : Nat → Nat) (n : Nat) (f : Nat → Nat → Nat) (c x y : Nat) (w : World) (hn : n ≤ 30) (hG : Grd w b o P Q C n f) (hy : y < n) :
    Calls Tryd.prog 28 #[.slice (some ⟨b, o, none⟩) n c, .int .i64 x, .int .i64 y] w fun e w' => (∃ r : Int, e = .returned (.int .i64 r) ∧ (0 ≤ r ↔ ∃ z, z < n ∧ f z y = x)) ∧ Below w.heap.size w w' := by
  by_cases h : ∃ z, z < n ∧ f z y = x
  · obtain ⟨z, hz, hp, hm⟩ := first_lt h
    refine (rinv_yes b o P Q C n f c x y w hn hG hy z hz hp hm).mono ?_
    rintro e w' ⟨rfl, hb⟩
    exact ⟨⟨_, rfl, iff_of_true (by omega) h⟩, hb⟩
  · refine (rinv_no b o P Q C n f c x y w hn hG hy (fun u hu e => h ⟨u, hu, e⟩)).mono ?_
    rintro e w' ⟨rfl, hb⟩
    exact ⟨⟨_, rfl, iff_of_false (by omega) h⟩, hb⟩
set_option maxRecDepth 100000 in
set_option maxHeartbeats 4000000 in
theorem rvalid_any (T : List (List Int)) (a : Option Addr) (c : Nat) (w : World) (hTl : T.length ≤ 1000000) (hRl : ∀ l ∈ T, l.length ≤ 1000000) (hT : TabAt w a T) :
    Calls Tryd.prog 19 #[.slice a T.length c] w fun e w' => e = .returned (.bool (okB (Qnd T))) ∧ Below w.heap.size w w' := by
  obtain ⟨res, hres⟩ : ∃ r, r = okB (Qnd T) := ⟨_, rfl⟩
  rw [← hres]
  have Hres := Lib.hid hres
  clear hres
  obtain ⟨n, hn⟩ : ∃ n, T.length = n := ⟨_, rfl⟩
  have Hn := Lib.hid hn
  rw [hn] at hTl
  rw [hn]
  clear hn
  have HT := Lib.hid hT
  have HRl := Lib.hid hRl
  clear hT hRl
  by_cases n1 : n < 1
  · have d1 : decide ((n : Int) < 1) = true := decide_eq_true (by omega)
    have d2 : decide (n < 1) = true := decide_eq_true n1
    obtain rfl : res = false := Hres.out.trans (okB_no fun h => by have := h.1.1; have := Hn.out; omega)
    obtain rfl : n = 0 := by omega
    clear n1
    go_enter Tryd.func19, Tryd.ntmps19
    go_wp2_with fail
    go_ret
    exact ⟨rfl, Below.refl _ _⟩
  by_cases n2 : 30 < n
  · have d1 : decide ((n : Int) < 1) = false := decide_eq_false (by omega)
    have d2 : decide (n < 1) = false := decide_eq_false n1
    have d3 : decide (30 < (n : Int)) = true := decide_eq_true (by omega)
    have d4 : decide (30 < n) = true := decide_eq_true n2
    obtain rfl : res = false := Hres.out.trans (okB_no fun h => by have := h.1.2; have := Hn.out; omega)
    clear n1 n2
    go_enter Tryd.func19, Tryd.ntmps19
    go_wp2_with fail
    go_ret
    exact ⟨rfl, Below.refl _ _⟩
  have d1 : decide ((n : Int) < 1) = false := decide_eq_false (by omega)
  have d2 : decide (n < 1) = false := decide_eq_false n1
  have d3 : decide (30 < (n : Int)) = false := decide_eq_false (by omega)
  have d4 : decide (30 < n) = false := decide_eq_false n2
  have hn1 : 1 ≤ n := by omega
  have hn30 : n ≤ 30 := by omega
  clear n1 n2 hTl
  go_enter Tryd.func19, Tryd.ntmps19
  go_wp2_with fail
  clear d1 d2 d3 d4
  go_loopg [4] n (fun g v wr => ∃ r : Nat, r ≤ n ∧ g = n - r ∧ v = .int .i64 r ∧ w = wr ∧ ∀ x, x < r → (T.getD x []).length = n ∧ ∀ y, y < n → 0 ≤ tb T x y ∧ tb T x y < n)
  case atStart => exact ⟨0, Nat.zero_le _, rfl, rfl, rfl, fun x h => absurd h (Nat.not_lt_zero x)⟩
  case round =>
    obtain ⟨r, hr, rfl, rfl, rfl, hq⟩ := hrel
    have Hq := Lib.hid hq
    clear hq
    by_cases hrn : r < n
    · have Hg := Lib.hid (getD_some (T := T) (r := r) (by rw [Hn.out]; exact hrn))
      obtain ⟨b1, o1, a', c', rfl, hcr, hrow⟩ := HT.out.rowAt Hg.out
      have hc1 := (hrow w (Below.refl _ _)).1
      have HI := Lib.hid (hrow w (Below.refl _ _)).2
      have hll : (T.getD r []).length ≤ 1000000 := HRl.out _ (List.mem_of_getElem? Hg.out)
      clear hrow
      by_cases hln : (T.getD r []).length = n
      · have Hrw : Hid (∀ y, tb T r y = nth (T.getD r []) y) := Lib.hid fun y => rfl
        have Hln := Lib.hid hln
        rw [hln] at hc1 hcr
        clear hll hln
        obtain ⟨row, hrow⟩ : ∃ row, row = T.getD r [] := ⟨_, rfl⟩
        rw [← hrow] at HI Hrw Hln Hg
        clear hrow
        go_wp2_with fail
        go_loopg [5] n (fun g v wr => ∃ j : Nat, j ≤ n ∧ g = n - j ∧ v = .int .i64 j ∧ w = wr ∧ ∀ y, y < j → 0 ≤ tb T r y ∧ tb T r y < n)
        case atStart => exact ⟨0, Nat.zero_le _, rfl, rfl, rfl, fun x h => absurd h (Nat.not_lt_zero x)⟩
        case round =>
          obtain ⟨j, hj, rfl, rfl, rfl, hy⟩ := hrel
          have Hy := Lib.hid hy
          clear hy
          by_cases hjn : j < n
          · obtain ⟨b2, o2, rfl, _, hcR⟩ := HI.out.open (by rw [Hln.out]; omega)
            have hcx := hcR j (by rw [Hln.out]; exact hjn)
            have Hx := Lib.hid (Hrw.out j)
            clear hcR
            obtain ⟨x, hx⟩ : ∃ x, x = nth row j := ⟨_, rfl⟩
            rw [← hx] at hcx Hx
            clear hx
            by_cases x0 : x < 0
            · obtain rfl : res = false := Hres.out.trans (okB_no fun h => by
                have h1 := (h.2.1.2 r (by rw [Hn.out]; exact hrn)).2 j (by rw [Hn.out]; exact hjn)
                rw [Hx.out] at h1; omega)
              have e1 : decide (x < 0) = true := decide_eq_true x0
              clear x0
              go_wp2_with fail
              go_ret
              exact ⟨rfl, Below.refl _ _⟩
            · have e1 : decide (x < 0) = false := decide_eq_false x0
              by_cases x1 : (n : Int) ≤ x
              · obtain rfl : res = false := Hres.out.trans (okB_no fun h => by
                  have h1 := (h.2.1.2 r (by rw [Hn.out]; exact hrn)).2 j (by rw [Hn.out]; exact hjn)
                  rw [Hx.out, Hn.out] at h1; omega)
                have e2 : decide ((n : Int) ≤ x) = true := decide_eq_true x1
                clear x0 x1
                go_wp2_with fail
                go_ret
                exact ⟨rfl, Below.refl _ _⟩
              · have e2 : decide ((n : Int) ≤ x) = false := decide_eq_false x1
                have Hy2 : Hid (∀ y, y < j + 1 → 0 ≤ tb T r y ∧ tb T r y < n) := Lib.hid fun y h => by
                  rcases Nat.lt_or_ge y j with g | g
                  · exact Hy.out y g
                  · rw [show y = j by omega, Hx.out]; omega
                clear x0 x1
                go_wp2_with fail
                go_roundg (n - (j + 1))
                case measure => omega
                case rel => exact ⟨j + 1, by omega, rfl, by go_num, rfl, Hy2.out⟩
          · obtain rfl : j = n := by omega
            have Hq2 : Hid (∀ x, x < r + 1 → (T.getD x []).length = j ∧ ∀ y, y < j → 0 ≤ tb T x y ∧ tb T x y < j) := Lib.hid fun x h => by
              rcases Nat.lt_or_ge x r with g | g
              · exact Hq.out x g
              · obtain rfl : x = r := by omega
                have : T.getD x [] = row := by rw [List.getD_eq_getElem?_getD, Hg.out]; rfl
                rw [this]
                exact ⟨Hln.out, Hy.out⟩
            go_wp2_with fail
            go_roundg (j - (r + 1))
            case measure => omega
            case rel => exact ⟨r + 1, by omega, rfl, by go_num, rfl, Hq2.out⟩
      · obtain rfl : res = false := Hres.out.trans (okB_no fun h => hln (by
          have h1 := (h.2.1.2 r (by rw [Hn.out]; exact hrn)).1
          rw [Hn.out] at h1; exact h1))
        have e1 : (((T.getD r []).length : Int) != (n : Int)) = true := by rw [bne_iff_ne]; omega
        have e2 : ((T.getD r []).length != n) = true := by rw [bne_iff_ne]; exact hln
        clear hln HI
        generalize (T.getD r []).length = L at *
        go_wp2_with fail
        go_ret
        exact ⟨rfl, Below.refl _ _⟩
    · obtain rfl : r = n := by omega
      have hsh : Shp T r := ⟨Hn.out, fun x hx => Hq.out x hx⟩
      obtain ⟨b, o, P, Q, C, rfl, hG⟩ := grd_of HT.out hn1 hsh
      have HG := Lib.hid hG
      have HC : Hid (∀ x y W', Below w.heap.size w W' → y < r → Calls Tryd.prog 28 #[.slice (some ⟨b, o, none⟩) r c, .int .i64 (x : Nat), .int .i64 (y : Nat)] W' fun e w' => (∃ v : Int, e = .returned (.int .i64 v) ∧ (0 ≤ v ↔ ∃ z, z < r ∧ tbn T z y = x)) ∧ Below W'.heap.size W' w') := Lib.hid fun x y W' h hy => rcol_any b o P Q C r (tbn T) c x y W' hn30 (hG.later h) hy
      have Hiff := Lib.hid (col_qnd Hn.out hn1 hn30 hsh)
      clear hG hsh Hq HT HRl
      generalize tbn T = f at *
      go_wp2_with fail
      go_loopg [6] r (fun g v wr => ∃ y : Nat, y ≤ r ∧ g = r - y ∧ v = .int .i64 y ∧ Below w.heap.size w wr ∧ ∀ t, t < y → ColN f r t)
      case atStart => exact ⟨0, Nat.zero_le _, rfl, rfl, Below.refl _ _, fun x h => absurd h (Nat.not_lt_zero x)⟩
      case round =>
        obtain ⟨y, hy0, rfl, rfl, hb, hy⟩ := hrel
        have Hy := Lib.hid hy
        have Hb := Lib.hid hb
        clear hy hb
        by_cases hyn : y < r
        · have h1 := (HG.out.later Hb.out).row y hyn
          have h2 := (HG.out.later Hb.out).el y y hyn hyn
          by_cases he : f y y = y
          · have He := Lib.hid he
            rw [he] at h2
            clear he
            go_wp2_with fail
            clear h1 h2
            go_loopg [7] r (fun g v wr => ∃ x : Nat, x ≤ r ∧ g = r - x ∧ v = .int .i64 x ∧ Below w.heap.size w wr ∧ ∀ t, t < x → (∃ z, z < r ∧ f z y = t) ∧ ∀ z, z < r → f (f t y) z = f (f t z) (f y z))
            case atStart => exact ⟨0, Nat.zero_le _, rfl, rfl, Hb.out, fun x h => absurd h (Nat.not_lt_zero x)⟩
            case round =>
              obtain ⟨x, hx0, rfl, rfl, hb, hx⟩ := hrel
              have Hx := Lib.hid hx
              replace Hb := Lib.hid hb
              clear hx hb
              by_cases hxn : x < r
              · go_wp2_with fail
                refine (HC.out x y _ Hb.out hyn).mono ?_
                rintro e w1 ⟨⟨v, rfl, hv⟩, hb⟩
                replace Hb := Lib.hid (below_of Hb.out hb Hb.out.size)
                have Hv := Lib.hid hv
                clear hb hv
                by_cases v0 : v < 0
                · have e1 : decide (v < 0) = true := decide_eq_true v0
                  obtain rfl : res = false := Hres.out.trans (okB_no fun h => by
                    have h1 := Hv.out.2 (((Hiff.out.1 h y hyn).2 x hxn).1)
                    omega)
                  clear v0
                  go_wp2_with fail
                  go_ret
                  exact ⟨rfl, Hb.out⟩
                · have e1 : decide (v < 0) = false := decide_eq_false v0
                  have Hon := Lib.hid (Hv.out.1 (by omega))
                  clear v0
                  go_wp2_with fail
                  clear e1 Hv
                  go_loopg [8] r (fun g v wr => ∃ z : Nat, z ≤ r ∧ g = r - z ∧ v = .int .i64 z ∧ Below w.heap.size w wr ∧ ∀ t, t < z → f (f x y) t = f (f x t) (f y t))
                  case atStart => exact ⟨0, Nat.zero_le _, rfl, rfl, Hb.out, fun x h => absurd h (Nat.not_lt_zero x)⟩
                  case round =>
                    obtain ⟨z, hz0, rfl, rfl, hb, hz⟩ := hrel
                    have Hz := Lib.hid hz
                    replace Hb := Lib.hid hb
                    clear hz hb
                    by_cases hzn : z < r
                    · have HG2 := Lib.hid (HG.out.later Hb.out)
                      have l1 := HG2.out.lt x y hxn hyn
                      have l2 := HG2.out.lt x z hxn hzn
                      have l3 := HG2.out.lt y z hyn hzn
                      have h1 := HG2.out.row x hxn
                      have h2 := HG2.out.el x y hxn hyn
                      have h3 := HG2.out.row _ l1
                      have h4 := HG2.out.el _ z l1 hzn
                      have h5 := HG2.out.el x z hxn hzn
                      have h6 := HG2.out.row _ l2
                      have h7 := HG2.out.row y hyn
                      have h8 := HG2.out.el y z hyn hzn
                      have h9 := HG2.out.el _ _ l2 l3
                      by_cases he : f (f x y) z = f (f x z) (f y z)
                      · have Hz2 : Hid (∀ t, t < z + 1 → f (f x y) t = f (f x t) (f y t)) := Lib.hid fun t ht => by
                          rcases Nat.lt_or_ge t z with g | g
                          · exact Hz.out t g
                          · rw [show t = z by omega]; exact he
                        rw [he] at h4
                        clear Hz
                        generalize f (f x z) (f y z) = s at *
                        clear he
                        generalize f x y = p1 at h2 h3 h4 l1
                        generalize f x z = p2 at h5 h6 h9 l2
                        generalize f y z = p3 at h8 h9 l3
                        go_wp2_with fail
                        go_quiet (fail)
                        go_wp2_with fail
                        go_roundg (r - (z + 1))
                        case measure => omega
                        case rel => exact ⟨z + 1, by omega, rfl, by go_num, below_drewNN Hb.out _, Hz2.out⟩
                      · obtain rfl : res = false := Hres.out.trans (okB_no fun h => he (((Hiff.out.1 h y hyn).2 x hxn).2 z hzn))
                        have d1 : ((f (f x y) z : Int) != (f (f x z) (f y z) : Int)) = true := by rw [bne_iff_ne]; omega
                        have d2 : (f (f x y) z != f (f x z) (f y z)) = true := by rw [bne_iff_ne]; exact he
                        clear he Hz
                        generalize f (f x z) (f y z) = s at *
                        generalize f (f x y) z = s2 at *
                        generalize f x y = p1 at h2 h3 h4 l1
                        generalize f x z = p2 at h5 h6 h9 l2
                        generalize f y z = p3 at h8 h9 l3
                        go_wp2_with fail
                        go_quiet (fail)
                        go_wp2_with fail
                        go_ret
                        exact ⟨rfl, below_drewNN Hb.out _⟩
                    · obtain rfl : z = r := by omega
                      go_wp2_with fail
                      go_roundg (z - (x + 1))
                      case measure => omega
                      case rel => exact ⟨x + 1, by omega, rfl, by go_num, Hb.out, fun t ht => by
                        rcases Nat.lt_or_ge t x with g | g
                        · exact Hx.out t g
                        · obtain rfl : t = x := by omega
                          exact ⟨Hon.out, Hz.out⟩⟩
              · obtain rfl : x = r := by omega
                go_wp2_with fail
                go_roundg (x - (y + 1))
                case measure => omega
                case rel => exact ⟨y + 1, by omega, rfl, by go_num, Hb.out, fun t ht => by
                  rcases Nat.lt_or_ge t y with g | g
                  · exact Hy.out t g
                  · obtain rfl : t = y := by omega
                    exact ⟨He.out, Hx.out⟩⟩
          · obtain rfl : res = false := Hres.out.trans (okB_no fun h => he (Hiff.out.1 h y hyn).1)
            have d1 : ((f y y : Int) != (y : Int)) = true := by rw [bne_iff_ne]; omega
            have d2 : (f y y != y) = true := by rw [bne_iff_ne]; exact he
            clear he
            generalize f y y = p at h2 d1 d2
            go_wp2_with fail
            go_ret
            exact ⟨rfl, Hb.out⟩
        · obtain rfl : y = r := by omega
          obtain rfl : res = true := Hres.out.trans (okB_yes (Hiff.out.2 Hy.out))
          go_wp2_with fail
          go_ret
          exact ⟨rfl, Hb.out⟩
set_option maxRecDepth 100000 in
set_option maxHeartbeats 4000000 in
theorem orb_no (T : List (List Int)) (a : Option Addr) (c : Nat) (w : World) (hTl : T.length ≤ 1000000) (hRl : ∀ l ∈ T, l.length ≤ 1000000) (hT : TabAt w a T) (hq : ¬ Qnd T) :
    Calls Tryd.prog 20 #[.agg #[.slice a T.length c]] w fun e w' => e = .returned (.slice none 0 0) ∧ Below w.heap.size w w' := by
  obtain ⟨W, hW⟩ : ∃ W, W = w.alloc (.cells #[.slice a T.length c] 25) := ⟨_, rfl⟩
  have h0 : HH w W [(w.heap.size, rowO 25 [.slice a T.length c])] [] := by rw [hW]; exact (HH.start w).alloc #[.slice a T.length c] 25 rfl rfl
  have H0 := Lib.hid h0
  clear h0
  have HC := Lib.hid (qvalid_any T a c W hTl hRl (hT.later H0.out.below))
  rw [okB_no hq] at HC
  have hc0 := H0.out.cell (k := 0) (i := 0) rfl rfl
  clear hT hRl hq
  go_enter Tryd.func20, Tryd.ntmps20
  rw [hW] at hc0
  go_wp2_with fail
  rw [← hW]
  clear hW hc0
  refine HC.out.mono ?_
  rintro e w1 ⟨rfl, hb⟩
  have H1 := Lib.hid (H0.out.call hb)
  clear hb H0 HC
  go_wp2_with fail
  go_ret
  exact ⟨rfl, H1.out.below⟩
end Go.Proofs.YtlgiponfcmeiiaaDoor
