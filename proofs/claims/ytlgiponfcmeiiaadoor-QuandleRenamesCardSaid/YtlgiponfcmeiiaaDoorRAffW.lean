/- The walks of the reference's Affine and Coprime. -/
import Derived.Test.YtlgiponfcmeiiaaDoorAffY
namespace Go.Proofs.YtlgiponfcmeiiaaDoor
open Go Go.RowKit
theorem af_numw (n t x y : Nat) (ht : t < n) (hx : x < n) (hy : y < n) (h30 : n ≤ 30) : ∃ A B V : Nat, wrap64 ((t : Int) * x) = (A : Int) ∧ wrap64 (((n : Int) + 1 - t) * y) = (B : Int) ∧ wrap64 ((A : Int) + B) = (V : Int) ∧ wrap64 ((t : Int) * x + ((n : Int) + 1 - t) * y) = (V : Int) ∧ (V : Int).tmod n = ((afV n t x y : Nat) : Int) ∧ (V : Int) % n = ((afV n t x y : Nat) : Int) := by
  have h1 : t * x ≤ 30 * 30 := Nat.mul_le_mul (by omega) (by omega)
  have h2 : (n + 1 - t) * y ≤ 31 * 30 := Nat.mul_le_mul (by omega) (by omega)
  have h0 : (t : Int) * x = ((t * x : Nat) : Int) := (Int.natCast_mul t x).symm
  have h4 : ((n : Int) + 1 - t) * y = (((n + 1 - t) * y : Nat) : Int) := by
    rw [Int.natCast_mul, show ((n + 1 - t : Nat) : Int) = (n : Int) + 1 - t by omega]
  have h3 : (t : Int) * x + ((n : Int) + 1 - t) * y = ((t * x + (n + 1 - t) * y : Nat) : Int) := by
    rw [h0, h4, ← Int.natCast_add]
  refine ⟨t * x, (n + 1 - t) * y, t * x + (n + 1 - t) * y, ?_, ?_, ?_, ?_, ?_, ?_⟩
  · rw [h0, wrap_mid (by omega) (by omega)]
  · rw [h4, wrap_mid (by omega) (by omega)]
  · rw [wrap_mid (by omega) (by omega)]; exact (Int.natCast_add _ _).symm
  · rw [h3, wrap_mid (by omega) (by omega)]
  · rw [Int.tmod_eq_emod_of_nonneg (by omega)]; exact (Int.natCast_emod _ _).symm
  · exact (Int.natCast_emod _ _).symm
/-- The first y entries of row x. -/
def afR (n t x y : Nat) : List Int := (List.range y).map fun k => ((afV n t x k : Nat) : Int)
theorem afR_len (n t x y : Nat) : (afR n t x y).length = y := by simp [afR]
theorem afR_succ (n t x y : Nat) : afR n t x (y + 1) = afR n t x y ++ [((afV n t x y : Nat) : Int)] := by
  unfold afR; rw [List.range_succ, List.map_append]; rfl
theorem snoc_all {α : Type} {P : Nat → α → Prop} {l : List α} {x : α} (h : ∀ m d, l[m]? = some d → P m d) (hx : P l.length x) : ∀ m d, (l ++ [x])[m]? = some d → P m d := fun m d hd => by
  rcases Nat.lt_or_ge m l.length with g | g
  · rw [List.getElem?_append_left g] at hd
    exact h m d hd
  · rw [List.getElem?_append_right g] at hd
    cases hm : m - l.length with
    | zero =>
      rw [hm] at hd
      cases hd
      rw [show m = l.length by omega]
      exact hx
    | succ m' => rw [hm] at hd; simp at hd
theorem HH.forget {w0 w : World} {l : Kn} {s s' : List SlO} (h : HH w0 w l s) (hs : s'.Sublist s) : HH w0 w l s' :=
  ⟨h.below, h.blk, fun x hx => h.own x (hs.subset hx), h.nd1, h.nd2.sublist hs, fun x hx y hy => h.nd3 x hx y (hs.subset hy)⟩
set_option maxRecDepth 100000 in
set_option maxHeartbeats 4000000 in
theorem raff_any (n : Nat) (t : Int) (w : World) (h1 : 1 ≤ n) (h30 : n ≤ 30) (tt : Nat) (htt : tt = (t % (n : Int)).toNat) :
    Calls Tryd.prog 14 #[.int .i64 (n : Int), .int .i64 t] w fun e w' => ∃ A E, e = .returned (.slice A n E) ∧ TabAt w' A (afT n tt) ∧ Below w.heap.size w w' := by
  obtain ⟨t1, t2, e1, e2, e3, e4, e5⟩ := t_parts t n h1 h30
  rw [← htt] at e3 e4 e5
  clear htt
  obtain ⟨i0, hi0, hz0, hz1, hz2⟩ := info_parts Tryd.info3
  obtain ⟨j0, hj0, hy0, hy1, hy2⟩ := info_parts Tryd.info36
  have hn0 : (n : Int) ≠ 0 := by omega
  have hn00 : n ≠ 0 := by omega
  go_enter Tryd.func14, Tryd.ntmps14
  go_wp2_with fail
  clear e1 e2 e3 e4
  go_loopg [6, 5] n (fun g v s5 wr => ∃ (x : Nat) (A : Option Addr) (E : Nat) (ms : List SlO), x ≤ n ∧ g = n - x ∧ v = .int .i64 x ∧ s5 = .slice A x E ∧ ms.length = x ∧ HH w wr [] (⟨A, E, 36, ms.map slV⟩ :: ms) ∧ ∀ (m : Nat) (d : SlO), ms[m]? = some d → d.E = 3 ∧ d.vs = ints (afR n tt m n))
  case atStart => exact ⟨0, none, 0, [], Nat.zero_le _, rfl, rfl, rfl, rfl, (HH.start w).addNil 36, fun m x h => by simp at h⟩
  case round =>
    obtain ⟨x, A, E, ms, hx, rfl, rfl, rfl, hms, hh, hb⟩ := hrel
    have Hh := Lib.hid hh
    have Hb := Lib.hid hb
    have Hms := Lib.hid hms
    clear hh hb hms
    by_cases hxn : x < n
    · have Hs0 := Lib.hid (Hh.out.addNil 3)
      have Hxn := Lib.hid hxn
      go_wp2_with fail
      go_loopg [8, 7] n (fun g v s7 wr => ∃ (y : Nat) (A2 : Option Addr) (E2 : Nat), y ≤ n ∧ g = n - y ∧ v = .int .i64 y ∧ s7 = .slice A2 y E2 ∧ HH w wr [] (⟨A, E, 36, ms.map slV⟩ :: ms ++ [⟨A2, E2, 3, ints (afR n tt x y)⟩]))
      case atStart => exact ⟨0, _, _, Nat.zero_le _, rfl, rfl, rfl, Hs0.out⟩
      case round =>
        obtain ⟨y, A2, E2, hy, rfl, rfl, rfl, hh⟩ := hrel
        have Hs := Lib.hid hh
        clear hh Hs0 Hh
        by_cases hyn : y < n
        · obtain ⟨gA, gB, V, g4, g5, g6, g1, g2, g3⟩ := af_numw n tt x y e5 Hxn.out hyn h30
          have hvl := afV_lt n tt x y (by omega)
          have Hri := Lib.hid (afR_succ n tt x y)
          have Hn0 : Hid ((ints (afR n tt x y)).length = y) := Lib.hid (by rw [ints_length, afR_len])
          generalize afV n tt x y = af at *
          generalize afR n tt x y = ls at *
          have Ha0 := Lib.hid (Hs.out.call ((Below.refl _ _).alloc (Nat.le_refl _) (.cells #[.int .i64 (af : Int)] 3)))
          have Hc0 : Hid ((wr.alloc (.cells #[.int .i64 (af : Int)] 3)).cell? ⟨wr.heap.size, 0, none⟩ = some (.int .i64 (af : Int))) := Lib.hid ((Row.new wr #[.int .i64 (af : Int)] 3).cell 0)
          have Hl1 : Hid (w.heap.size ≤ (wr.alloc (.cells #[.int .i64 (af : Int)] 3)).heap.size) := Lib.hid Ha0.out.below.size
          go_wp2_with (with_reducible refine wpList_append_one rfl (.tmp 26) (.tmp 39) 36 rfl w.heap.size 3 i0 (.int .i64 0) 8 Tryd.underlying36 hi0 hz0 hz1 hz2 rfl A2 y E2 (ints ls) rfl Hn0.out (Ha0.out.sl (nthO_last _ _)) _ 1 (.int .i64 (af : Int)) rfl Hc0.out rfl (by omega) (by omega) Hl1.out ?_; intro A3 e3 w2 hO2 hT2 hA2; have H2 := Lib.hid (Ha0.out.grow (nthO_last _ _) hO2 hT2 hA2); clear hO2 hT2 hA2)
          have H3 : Hid (HH w w2 [] (⟨A, E, 36, ms.map slV⟩ :: ms ++ [⟨A3, e3, 3, ints (ls ++ [(af : Int)])⟩])) := Lib.hid (by
            have h := H2.out
            rw [setO_last, ints_snoc] at h
            exact h)
          go_roundg (n - (y + 1))
          case measure => omega
          case rel => exact ⟨y + 1, A3, e3, by omega, rfl, by go_num, rfl, by rw [Hri.out]; exact H3.out⟩
        · obtain rfl : y = n := by omega
          have Hmn : Hid ((ms.map slV).length = x) := Lib.hid (by rw [List.length_map]; exact Hms.out)
          have Ha0 := Lib.hid (Hs.out.call ((Below.refl _ _).alloc (Nat.le_refl _) (.cells #[.slice A2 y E2] 36)))
          have Hc0 : Hid ((wr.alloc (.cells #[.slice A2 y E2] 36)).cell? ⟨wr.heap.size, 0, none⟩ = some (.slice A2 y E2)) := Lib.hid ((Row.new wr #[.slice A2 y E2] 36).cell 0)
          have Hl1 : Hid (w.heap.size ≤ (wr.alloc (.cells #[.slice A2 y E2] 36)).heap.size) := Lib.hid Ha0.out.below.size
          go_wp2_with (with_reducible refine wpList_append_one rfl (.tmp 41) (.tmp 43) 23 rfl w.heap.size 36 j0 (.slice none 0 0) 24 Tryd.underlying23 hj0 hy0 hy1 hy2 rfl A x E (ms.map slV) rfl Hmn.out (Ha0.out.sl (k := 0) rfl) _ 1 (.slice A2 y E2) rfl Hc0.out rfl (by omega) (by omega) Hl1.out ?_; intro A3 e3 w2 hO2 hT2 hA2; have H2 := Lib.hid (Ha0.out.grow (k := 0) rfl hO2 hT2 hA2); clear hO2 hT2 hA2)
          go_roundg (y - (x + 1))
          case measure => omega
          case rel =>
            refine ⟨x + 1, A3, e3, ms ++ [⟨A2, E2, 3, ints (afR y tt x y)⟩], by omega, rfl, by go_num, rfl, by rw [List.length_append, Hms.out]; rfl, ?_, snoc_all Hb.out ⟨rfl, by rw [Hms.out]⟩⟩
            have h := H2.out
            have e2' : List.map slV [(⟨A2, E2, 3, ints (afR y tt x y)⟩ : SlO)] = [.slice A2 y E2] := by
              show [slV _] = _
              unfold slV
              rw [ints_length, afR_len]
            rw [List.map_append, e2']
            exact h
    · obtain rfl : x = n := by omega
      have HF : Hid (TabAt wr A (afT x tt)) := Lib.hid ((rowsAt_of (Hh.out.forget (List.sublist_cons_self _ _)) (by rw [afT_len]; exact Hms.out) (fun m d h => by
        have hm : m < x := by rw [← Hms.out]; exact (List.getElem?_eq_some_iff.1 h).1
        rw [afT_row _ _ _ hm]
        exact Hb.out m d h)).tab (Hh.out.sl (k := 0) rfl).at)
      go_wp2_with fail
      go_ret
      exact ⟨A, E, rfl, HF.out, Hh.out.below⟩
set_option maxRecDepth 100000 in
set_option maxHeartbeats 4000000 in
theorem cop_any (n : Nat) (t : Int) (w : World) (h1 : 1 ≤ n) (h30 : n ≤ 30) :
    Calls Tryd.prog 16 #[.int .i64 (n : Int), .int .i64 t] w fun e w' => e = .returned (.bool (decide (¬ 1 < Nat.gcd (t % (n : Int)).toNat n))) ∧ Below w.heap.size w w' := by
  obtain ⟨res, hres⟩ : ∃ r, r = decide (¬ 1 < Nat.gcd (t % (n : Int)).toNat n) := ⟨_, rfl⟩
  rw [← hres]
  have Hres := Lib.hid hres
  clear hres
  go_enter Tryd.func16, Tryd.ntmps16
  go_wp2_with fail
  go_loopg [5] n (fun g v wr => ∃ k : Nat, 2 ≤ k ∧ k ≤ n + 2 ∧ g = n + 2 - k ∧ v = .int .i64 k ∧ w = wr ∧ ∀ u, 2 ≤ u → u < k → u ≤ n → ¬ (n % u = 0 ∧ t.tmod u = 0))
  case atStart => exact ⟨2, Nat.le_refl _, by omega, by omega, rfl, rfl, fun u h h' => absurd h (by omega)⟩
  case round =>
    obtain ⟨k, hk2, hk, rfl, rfl, rfl, hu⟩ := hrel
    have Hu := Lib.hid hu
    clear hu
    by_cases hkn : k ≤ n
    · have d1 : decide ((k : Int) ≤ (n : Int)) = true := decide_eq_true (by omega)
      have d2 : decide (k ≤ n) = true := decide_eq_true hkn
      have hk0 : (k : Int) ≠ 0 := by omega
      have hk00 : k ≠ 0 := by omega
      obtain ⟨r1, hr1⟩ : ∃ r1, r1 = n % k := ⟨_, rfl⟩
      have f1 : (n : Int) % (k : Int) = (r1 : Int) := by rw [hr1]; exact (Int.natCast_emod _ _).symm
      have f2 : (n : Int).tmod (k : Int) = (r1 : Int) := by rw [Int.tmod_eq_emod_of_nonneg (by omega)]; exact f1
      obtain ⟨s, hs⟩ : ∃ s, t.tmod (k : Int) = s := ⟨_, rfl⟩
      by_cases hr0 : r1 = 0
      · rw [hr0] at f1 f2
        by_cases hs0 : s = 0
        · obtain rfl : res = false := Hres.out.trans (decide_eq_false fun h => h ((cop_iff n t h1).1 ⟨k, hk2, hkn, by omega, by rw [hs]; exact hs0⟩))
          rw [hs0] at hs
          clear hr1 hr0 hs0
          go_wp2_with fail
          go_ret
          exact ⟨rfl, Below.refl _ _⟩
        · have d3 : (s == 0) = false := by rw [beq_eq_false_iff_ne]; exact hs0
          have Hu2 : Hid (∀ u, 2 ≤ u → u < k + 1 → u ≤ n → ¬ (n % u = 0 ∧ t.tmod u = 0)) := Lib.hid fun u h h' h'' => by
            rcases Nat.lt_or_ge u k with g | g
            · exact Hu.out u h g h''
            · obtain rfl : u = k := by omega
              intro e; rw [hs] at e; exact hs0 e.2
          clear hr1 hr0 hs0 Hu
          go_wp2_with fail
          go_roundg (n + 2 - (k + 1))
          case measure => omega
          case rel => exact ⟨k + 1, by omega, by omega, rfl, by go_num, rfl, Hu2.out⟩
      · have d3 : ((r1 : Int) == 0) = false := by rw [beq_eq_false_iff_ne]; omega
        have d4 : (r1 == 0) = false := by rw [beq_eq_false_iff_ne]; exact hr0
        have Hu2 : Hid (∀ u, 2 ≤ u → u < k + 1 → u ≤ n → ¬ (n % u = 0 ∧ t.tmod u = 0)) := Lib.hid fun u h h' h'' => by
          rcases Nat.lt_or_ge u k with g | g
          · exact Hu.out u h g h''
          · obtain rfl : u = k := by omega
            intro e; omega
        clear hr1 hr0 Hu
        go_wp2_with fail
        go_roundg (n + 2 - (k + 1))
        case measure => omega
        case rel => exact ⟨k + 1, by omega, by omega, rfl, by go_num, rfl, Hu2.out⟩
    · have d1 : decide ((k : Int) ≤ (n : Int)) = false := decide_eq_false (by omega)
      have d2 : decide (k ≤ n) = false := decide_eq_false hkn
      obtain rfl : res = true := Hres.out.trans (decide_eq_true fun h => by
        obtain ⟨u, h2, h3, h4, h5⟩ := (cop_iff n t h1).2 h
        exact Hu.out u h2 (by omega) h3 ⟨h4, h5⟩)
      go_wp2_with fail
      go_ret
      exact ⟨rfl, Below.refl _ _⟩
end Go.Proofs.YtlgiponfcmeiiaaDoor
