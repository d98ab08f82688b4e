/- The walks of quandle.idempotent, invertible, distributive. -/
import Derived.Test.YtlgiponfcmeiiaaDoorGrd
namespace Go.Proofs.YtlgiponfcmeiiaaDoor
open Go Go.RowKit
set_option maxRecDepth 100000 in
set_option maxHeartbeats 4000000 in
theorem idem_any (b o : Nat) (P Q C : Nat → Nat) (n : Nat) (f : Nat → Nat → Nat) (c : Nat) (w : World) (hn : n ≤ 30) (hG : Grd w b o P Q C n f) :
    Calls Tryd.prog 25 #[.slice (some ⟨b, o, none⟩) n c] w fun e w' => e = .returned (.bool (okB (IdmN f n))) ∧ Below w.heap.size w w' := by
  obtain ⟨res, hres⟩ : ∃ r, r = okB (IdmN f n) := ⟨_, rfl⟩
  rw [← hres]
  have Hres := Lib.hid hres
  have HG := Lib.hid hG
  clear hG hres
  go_enter Tryd.func25, Tryd.ntmps25
  go_wp2_with fail
  go_loopg [6] n (fun g v wr => ∃ i : Nat, i ≤ n ∧ g = n - i ∧ v = .int .i64 i ∧ w = wr ∧ ∀ x, x < i → f x x = x)
  case atStart => exact ⟨0, Nat.zero_le _, rfl, rfl, rfl, fun x h => absurd h (Nat.not_lt_zero x)⟩
  case round =>
    obtain ⟨i, hi, rfl, rfl, rfl, hx⟩ := hrel
    have Hx := Lib.hid hx
    clear hx
    by_cases hin : i < n
    · have h1 := HG.out.row i hin
      have h2 := HG.out.el i i hin hin
      by_cases he : f i i = i
      · rw [he] at h2
        have Hx2 : Hid (∀ x, x < i + 1 → f x x = x) := Lib.hid fun x h => by
          rcases Nat.lt_or_ge x i with g | g
          · exact Hx.out x g
          · rw [show x = i by omega]; exact he
        clear he
        go_wp2_with fail
        go_roundg (n - (i + 1))
        case measure => omega
        case rel => exact ⟨i + 1, by omega, rfl, by go_num, rfl, Hx2.out⟩
      · obtain rfl : res = false := Hres.out.trans (okB_no fun h => he (h i hin))
        have d1 : ((f i i : Int) != (i : Int)) = true := by rw [bne_iff_ne]; omega
        have d2 : (f i i != i) = true := by rw [bne_iff_ne]; exact he
        generalize f i i = p at *
        clear he
        go_wp2_with fail
        go_ret
        exact ⟨rfl, Below.refl _ _⟩
    · obtain rfl : i = n := by omega
      obtain rfl : res = true := Hres.out.trans (okB_yes Hx.out)
      go_wp2_with fail
      go_ret
      exact ⟨rfl, Below.refl _ _⟩
/-- Which numbers below N were seen in column y, i rows seen. -/
def snG (N : Nat) (f : Nat → Nat → Nat) (y i : Nat) : List Bool := (List.range N).map fun v => (List.range i).any fun x => f x y == v
theorem snG_len (N : Nat) (f : Nat → Nat → Nat) (y i : Nat) : (snG N f y i).length = N := by simp [snG]
theorem snG_zero (N : Nat) (f : Nat → Nat → Nat) (y : Nat) : snG N f y 0 = List.replicate N false := by
  apply List.ext_getElem
  · simp [snG]
  · intro v h1 h2; simp [snG]
theorem snG_get {N : Nat} {f : Nat → Nat → Nat} {y i v : Nat} (hv : v < N) : bth (snG N f y i) v = (List.range i).any fun x => f x y == v := by simp [bth, snG, hv]
theorem snG_set {N : Nat} {f : Nat → Nat → Nat} {y i : Nat} : (snG N f y i).set (f i y) true = snG N f y (i + 1) := by
  apply List.ext_getElem
  · simp [snG]
  · intro v h1 h2
    rw [List.getElem_set]
    simp only [snG, List.getElem_map, List.getElem_range, List.range_succ, List.any_append, List.any_cons, List.any_nil, Bool.or_false]
    by_cases e : f i y = v
    · rw [if_pos e, beq_iff_eq.2 e, Bool.or_true]
    · rw [if_neg e, beq_eq_false_iff_ne.2 e, Bool.or_false]
set_option maxRecDepth 100000 in
set_option maxHeartbeats 4000000 in
theorem invt_any (b o : Nat) (P Q C : Nat → Nat) (n : Nat) (f : Nat → Nat → Nat) (c : Nat) (w : World) (hn : n ≤ 30) (hG : Grd w b o P Q C n f) :
    Calls Tryd.prog 26 #[.slice (some ⟨b, o, none⟩) n c] w fun e w' => e = .returned (.bool (okB (IvtN f n))) ∧ Below w.heap.size w w' := by
  obtain ⟨res, hres⟩ : ∃ r, r = okB (IvtN f n) := ⟨_, rfl⟩
  rw [← hres]
  have Hres := Lib.hid hres
  have HG := Lib.hid hG
  clear hG hres
  go_enter Tryd.func26, Tryd.ntmps26
  go_wp2_with fail
  go_loopg [8] n (fun g v wr => ∃ y : Nat, y ≤ n ∧ g = n - y ∧ v = .int .i64 y ∧ Below w.heap.size w wr ∧ ∀ t, t < y → ∀ x z, x < n → z < n → f x t = f z t → x = z)
  case atStart => exact ⟨0, Nat.zero_le _, rfl, rfl, Below.refl _ _, fun x h => absurd h (Nat.not_lt_zero x)⟩
  case round =>
    obtain ⟨y, hy, rfl, rfl, hb, hx⟩ := hrel
    have Hx := Lib.hid hx
    have Hb := Lib.hid hb
    clear hx hb
    by_cases hyn : y < n
    · have H1 := Lib.hid ((HH.start wr).alloc #[.bool false, .bool false, .bool false, .bool false, .bool false, .bool false, .bool false, .bool false, .bool false, .bool false, .bool false, .bool false, .bool false, .bool false, .bool false, .bool false, .bool false, .bool false, .bool false, .bool false, .bool false, .bool false, .bool false, .bool false, .bool false, .bool false, .bool false, .bool false, .bool false, .bool false] 49 rfl (vs := bools (snG 30 f y 0)) (by rw [snG_zero]; rfl))
      obtain ⟨v1, hv1⟩ : ∃ x, x = wr.alloc (.cells #[.bool false, .bool false, .bool false, .bool false, .bool false, .bool false, .bool false, .bool false, .bool false, .bool false, .bool false, .bool false, .bool false, .bool false, .bool false, .bool false, .bool false, .bool false, .bool false, .bool false, .bool false, .bool false, .bool false, .bool false, .bool false, .bool false, .bool false, .bool false, .bool false, .bool false] 49) := ⟨_, rfl⟩
      go_wp2_with fail
      rw [← hv1]
      rw [← hv1] at H1
      generalize wr.heap.size = t at *
      clear hv1
      go_loopg [13] n (fun g v wx => ∃ i : Nat, i ≤ n ∧ g = n - i ∧ v = .int .i64 i ∧ HH wr wx [(t, rowO 49 (bools (snG 30 f y i)))] [] ∧ ∀ x z, x < i → z < i → f x y = f z y → x = z)
      case atStart => exact ⟨0, Nat.zero_le _, rfl, rfl, H1.out, fun x z h => absurd h (Nat.not_lt_zero x)⟩
      case round =>
        obtain ⟨i, hi, rfl, rfl, hh, hq⟩ := hrel
        have Hs := Lib.hid hh
        have Hq := Lib.hid hq
        clear hh hq H1
        have HG2 := Lib.hid (HG.out.later (Hb.out.trans (Hs.out.below.mono Hb.out.size)))
        by_cases hin : i < n
        · have h1 := HG2.out.row i hin
          have h2 := HG2.out.el i y hin hyn
          have hlt := HG2.out.lt i y hin hyn
          have h30 : f i y < 30 := by omega
          have hcl := Hs.out.bool (k := 0) rfl (f i y) (by rw [snG_len]; exact h30)
          have hfr := Hs.out.frozen (k := 0) rfl (f i y)
          rw [snG_get h30] at hcl
          by_cases hs : (List.range i).any (fun x => f x y == f i y) = true
          · obtain rfl : res = false := Hres.out.trans (okB_no fun h => by
              obtain ⟨x, hx, e⟩ := List.any_eq_true.1 hs
              have hxi := List.mem_range.1 hx
              have := h y hyn x i (by omega) hin (beq_iff_eq.1 e)
              omega)
            rw [hs] at hcl
            clear hs
            generalize f i y = p at *
            go_wp2_with fail
            go_ret
            exact ⟨rfl, Hb.out.trans (Hs.out.below.mono Hb.out.size)⟩
          · have hs2 := Bool.eq_false_iff.2 hs
            have Hq2 : Hid (∀ x z, x < i + 1 → z < i + 1 → f x y = f z y → x = z) := Lib.hid fun x z hx hz e => by
              have hne : ∀ u, u < i → f u y ≠ f i y := fun u hu g => hs (List.any_eq_true.2 ⟨u, List.mem_range.2 hu, beq_iff_eq.2 g⟩)
              rcases Nat.lt_or_ge x i with gx | gx
              · rcases Nat.lt_or_ge z i with gz | gz
                · exact Hq.out x z gx gz e
                · rw [show z = i by omega] at e; exact absurd e (hne x gx)
              · rcases Nat.lt_or_ge z i with gz | gz
                · rw [show x = i by omega] at e; exact absurd e.symm (hne z gz)
                · omega
            rw [hs2] at hcl
            have HN := Lib.hid (Hs.out.setBool (k := 0) rfl (f i y) true)
            rw [snG_set] at HN
            clear hs hs2
            generalize f i y = p at *
            go_wp2_with fail
            go_roundg (n - (i + 1))
            case measure => omega
            case rel => exact ⟨i + 1, by omega, rfl, by go_num, HN.out, Hq2.out⟩
        · obtain rfl : i = n := by omega
          go_wp2_with fail
          go_roundg (i - (y + 1))
          case measure => omega
          case rel => exact ⟨y + 1, by omega, rfl, by go_num, Hb.out.trans (Hs.out.below.mono Hb.out.size), fun t ht => by
            rcases Nat.lt_or_ge t y with g | g
            · exact Hx.out t g
            · rw [show t = y by omega]; exact Hq.out⟩
    · obtain rfl : y = n := by omega
      obtain rfl : res = true := Hres.out.trans (okB_yes Hx.out)
      go_wp2_with fail
      go_ret
      exact ⟨rfl, Hb.out⟩
set_option maxRecDepth 100000 in
set_option maxHeartbeats 4000000 in
theorem dist_any (b o : Nat) (P Q C : Nat → Nat) (n : Nat) (f : Nat → Nat → Nat) (c : Nat) (w : World) (hn : n ≤ 30) (hG : Grd w b o P Q C n f) :
    Calls Tryd.prog 27 #[.slice (some ⟨b, o, none⟩) n c] w fun e w' => e = .returned (.bool (okB (DstN f n))) ∧ Below w.heap.size w w' := by
  obtain ⟨res, hres⟩ : ∃ r, r = okB (DstN f n) := ⟨_, rfl⟩
  rw [← hres]
  have Hres := Lib.hid hres
  have HG := Lib.hid hG
  clear hG hres
  go_enter Tryd.func27, Tryd.ntmps27
  go_wp2_with fail
  go_loopg [8] n (fun g v wr => ∃ x : Nat, x ≤ n ∧ g = n - x ∧ v = .int .i64 x ∧ (∃ m, wr = w.drewN m) ∧ ∀ t, t < x → ∀ y, y < n → ∀ z, z < n → f (f t y) z = f (f t z) (f y z))
  case atStart => exact ⟨0, Nat.zero_le _, rfl, rfl, ⟨0, rfl⟩, fun x h => absurd h (Nat.not_lt_zero x)⟩
  case round =>
    obtain ⟨x, hx0, rfl, rfl, ⟨m, rfl⟩, hx⟩ := hrel
    have Hx := Lib.hid hx
    clear hx
    by_cases hxn : x < n
    · go_wp2_with fail
      go_loopg [13] n (fun g v wr => ∃ y : Nat, y ≤ n ∧ g = n - y ∧ v = .int .i64 y ∧ (∃ m, wr = w.drewN m) ∧ ∀ t, t < y → ∀ z, z < n → f (f x t) z = f (f x z) (f t z))
      case atStart => exact ⟨0, Nat.zero_le _, rfl, rfl, ⟨m, rfl⟩, fun x h => absurd h (Nat.not_lt_zero x)⟩
      case round =>
        obtain ⟨y, hy0, rfl, rfl, ⟨m2, rfl⟩, hy⟩ := hrel
        have Hy := Lib.hid hy
        clear hy
        by_cases hyn : y < n
        · go_wp2_with fail
          go_loopg [18] n (fun g v wr => ∃ z : Nat, z ≤ n ∧ g = n - z ∧ v = .int .i64 z ∧ (∃ m, wr = w.drewN m) ∧ ∀ t, t < z → f (f x y) t = f (f x t) (f y t))
          case atStart => exact ⟨0, Nat.zero_le _, rfl, rfl, ⟨m2, rfl⟩, fun x h => absurd h (Nat.not_lt_zero x)⟩
          case round =>
            obtain ⟨z, hz0, rfl, rfl, ⟨m3, rfl⟩, hz⟩ := hrel
            have Hz := Lib.hid hz
            clear hz
            by_cases hzn : z < n
            · have l1 := HG.out.lt x y hxn hyn
              have l2 := HG.out.lt x z hxn hzn
              have l3 := HG.out.lt y z hyn hzn
              have h1 := HG.out.row x hxn
              have h2 := HG.out.el x y hxn hyn
              have h3 := HG.out.row _ l1
              have h4 := HG.out.el _ z l1 hzn
              have h5 := HG.out.el x z hxn hzn
              have h6 := HG.out.row _ l2
              have h7 := HG.out.row y hyn
              have h8 := HG.out.el y z hyn hzn
              have h9 := HG.out.el _ _ l2 l3
              by_cases he : f (f x y) z = f (f x z) (f y z)
              · have Hz2 : Hid (∀ t, t < z + 1 → f (f x y) t = f (f x t) (f y t)) := Lib.hid fun t ht => by
                  rcases Nat.lt_or_ge t z with g | g
                  · exact Hz.out t g
                  · rw [show t = z by omega]; exact he
                rw [he] at h4
                generalize f (f x z) (f y z) = r at *
                clear he
                generalize f x y = p1 at *
                generalize f x z = p2 at *
                generalize f y z = p3 at *
                go_wp2_with fail
                go_quiet (fail)
                go_wp2_with fail
                go_roundg (n - (z + 1))
                case measure => omega
                case rel => exact ⟨z + 1, by omega, rfl, by go_num, ⟨_, rfl⟩, Hz2.out⟩
              · obtain rfl : res = false := Hres.out.trans (okB_no fun h => he (h x hxn y hyn z hzn))
                have d1 : ((f (f x y) z : Int) != (f (f x z) (f y z) : Int)) = true := by rw [bne_iff_ne]; omega
                have d2 : (f (f x y) z != f (f x z) (f y z)) = true := by rw [bne_iff_ne]; exact he
                clear he
                generalize f (f x z) (f y z) = r at *
                generalize f (f x y) z = r2 at *
                generalize f x y = p1 at *
                generalize f x z = p2 at *
                generalize f y z = p3 at *
                go_wp2_with fail
                go_quiet (fail)
                go_wp2_with fail
                go_ret
                exact ⟨rfl, below_drewNN (below_drewNN (Below.refl _ _) _) _⟩
            · obtain rfl : z = n := by omega
              go_wp2_with fail
              go_roundg (z - (y + 1))
              case measure => omega
              case rel => exact ⟨y + 1, by omega, rfl, by go_num, ⟨m3, rfl⟩, fun t ht => by
                rcases Nat.lt_or_ge t y with g | g
                · exact Hy.out t g
                · rw [show t = y by omega]; exact Hz.out⟩
        · obtain rfl : y = n := by omega
          go_wp2_with fail
          go_roundg (y - (x + 1))
          case measure => omega
          case rel => exact ⟨x + 1, by omega, rfl, by go_num, ⟨m2, rfl⟩, fun t ht => by
            rcases Nat.lt_or_ge t x with g | g
            · exact Hx.out t g
            · rw [show t = x by omega]; exact Hy.out⟩
    · obtain rfl : x = n := by omega
      obtain rfl : res = true := Hres.out.trans (okB_yes Hx.out)
      go_wp2_with fail
      go_ret
      exact ⟨rfl, below_drewNN (Below.refl _ _) _⟩
end Go.Proofs.YtlgiponfcmeiiaaDoor
