/- The walk of the reference's Equal: are two tables equal? -/
import Derived.Test.YtlgiponfcmeiiaaDoorHeapB
namespace Go.Proofs.YtlgiponfcmeiiaaDoor
open Go Go.RowKit
theorem drop_consG {α : Type} [Inhabited α] (l : List α) (i : Nat) (h : i < l.length) : ∃ x, l[i]? = some x ∧ l.drop i = x :: l.drop (i + 1) := ⟨l[i], by simp [h], List.drop_eq_getElem_cons h⟩
theorem tab_ext {T U : List (List Int)} (hl : T.length = U.length) (h : ∀ j, j < T.length → T[j]? = U[j]?) : T = U := by
  apply List.ext_getElem? 
  intro j
  rcases Nat.lt_or_ge j T.length with g | g
  · exact h j g
  · rw [List.getElem?_eq_none g, List.getElem?_eq_none (by omega)]
set_option maxRecDepth 100000 in
set_option maxHeartbeats 4000000 in
theorem equalT_any (T U : List (List Int)) (a b : Option Addr) (c d : Nat) (w : World) (hTl : T.length ≤ 1000000000) (hRl : ∀ l ∈ T, l.length ≤ 1000000000) (hT : TabAt w a T) (hU : TabAt w b U) :
    Calls Tryd.prog 13 #[.slice a T.length c, .slice b U.length d] w fun e w' => e = .returned (.bool (decide (T = U))) ∧ ∃ m, w' = w.drewN m := by
  by_cases hl : T.length = U.length
  · have d1 : ((T.length : Int) != (U.length : Int)) = false := by rw [hl]; simp
    have hl1 : T.length ≤ U.length := by omega
    have HT := Lib.hid hT
    have HU := Lib.hid hU
    have Hl := Lib.hid hl
    have HRl := Lib.hid hRl
    clear hl hT hU hRl
    go_enter Tryd.func13, Tryd.ntmps13
    go_wp2_with fail
    clear d1
    go_loopg [5] T.length (fun g v wr => ∃ i : Nat, i ≤ T.length ∧ g = T.length - i ∧ v = .int .i64 i ∧ (∀ j, j < i → T[j]? = U[j]?) ∧ ∃ m, wr = w.drewN m)
    case atStart => exact ⟨0, Nat.zero_le _, rfl, rfl, fun j h => absurd h (Nat.not_lt_zero j), 0, rfl⟩
    case round =>
      obtain ⟨i, hi, rfl, rfl, hq, m, rfl⟩ := hrel
      have Hq := Lib.hid hq
      clear hq
      by_cases hil : i < T.length
      · obtain ⟨r1, hr1, _⟩ := drop_consG T i hil
        obtain ⟨r2, hr2, _⟩ := drop_consG U i (by omega)
        obtain ⟨b1, o1, a1, c1, rfl, _, hw1⟩ := HT.out.rowAt hr1
        obtain ⟨b2, o2, a2, c2, rfl, _, hw2⟩ := HU.out.rowAt hr2
        have h1 := (hw1 w (Below.refl _ _)).1
        have h2 := (hw2 w (Below.refl _ _)).1
        have Hw1 := Lib.hid hw1
        have Hw2 := Lib.hid hw2
        have hrl := HRl.out r1 (List.mem_of_getElem? hr1)
        have hil2 : i < U.length := by omega
        have Hr := Lib.hid (And.intro hr1 hr2)
        clear hw1 hw2 hr1 hr2
        by_cases hll : r1.length = r2.length
        · have e1 : ((r1.length : Int) != (r2.length : Int)) = false := by rw [hll]; simp
          have hl3 : r1.length ≤ r2.length := by omega
          have Hll := Lib.hid hll
          clear hll
          go_wp2_with fail
          go_region
          clear e1 h1 h2
          go_wp2_with fail
          go_loopg [6] r1.length (fun g v wr => ∃ k : Nat, k ≤ r1.length ∧ g = r1.length - k ∧ v = .int .i64 k ∧ (∀ j, j < k → nth r1 j = nth r2 j) ∧ ∃ m, wr = w.drewN m)
          case atStart => exact ⟨0, Nat.zero_le _, rfl, rfl, fun j h => absurd h (Nat.not_lt_zero j), m + 1, rfl⟩
          case round =>
            obtain ⟨k, hk, rfl, rfl, hp, m2, rfl⟩ := hrel
            have Hp := Lib.hid hp
            clear hp
            have h1 := (Hw1.out w (Below.refl _ _)).1
            have h2 := (Hw2.out w (Below.refl _ _)).1
            by_cases hkl : k < r1.length
            · obtain ⟨b3, o3, rfl, _, hc3⟩ := (Hw1.out w (Below.refl _ _)).2.open (by omega)
              obtain ⟨b4, o4, rfl, _, hc4⟩ := (Hw2.out w (Below.refl _ _)).2.open (by omega)
              have hx1 := hc3 k hkl
              have hx2 := hc4 k (by omega)
              have hkl2 : k < r2.length := by omega
              clear hc3 hc4
              by_cases he : nth r1 k = nth r2 k
              · have hne : (nth r1 k != nth r2 k) = false := by rw [he]; simp
                have Hp2 : Hid (∀ j, j < k + 1 → nth r1 j = nth r2 j) := Lib.hid fun j hj => by
                  by_cases e : j = k
                  · rw [e]; exact he
                  · exact Hp.out j (by omega)
                clear he
                generalize nth r1 k = x at *
                generalize nth r2 k = y at *
                go_wp2_with fail
                go_quiet (fail)
                go_wp2_with fail
                go_roundg (r1.length - (k + 1))
                case measure => omega
                case rel => exact ⟨k + 1, by omega, rfl, by go_num, Hp2.out, m2 + nq, rfl⟩
              · have hne : (nth r1 k != nth r2 k) = true := by rw [bne, Bool.not_eq_true', beq_eq_false_iff_ne]; exact he
                have Hxy : Hid (decide (T = U) = false) := Lib.hid (decide_eq_false fun e => by
                  have h1 := Hr.out.1
                  rw [e, Hr.out.2] at h1
                  rw [Option.some.inj h1] at he
                  exact he rfl)
                have he2 := he
                clear he
                generalize nth r1 k = x at *
                generalize nth r2 k = y at *
                go_wp2_with fail
                go_quiet (fail)
                go_wp2_with fail
                go_ret
                rw [Hxy.out]
                exact ⟨rfl, m2 + nq, World.drewN_drewN _ _ _⟩
            · obtain rfl : k = r1.length := by omega
              have Hq2 : Hid (∀ j, j < i + 1 → T[j]? = U[j]?) := Lib.hid fun j hj => by
                by_cases e : j = i
                · rw [e, Hr.out.1, Hr.out.2, ext_nth Hll.out Hp.out]
                · exact Hq.out j (by omega)
              go_wp2_with fail
              go_roundg (T.length - (i + 1))
              case measure => omega
              case rel => exact ⟨i + 1, by omega, rfl, by go_num, Hq2.out, m2, rfl⟩
        · have e1 : ((r1.length : Int) != (r2.length : Int)) = true := by rw [bne, Bool.not_eq_true', beq_eq_false_iff_ne]; omega
          have e2 : ¬ ((r1.length : Int) = (r2.length : Int)) := by omega
          have Hxy : Hid (decide (T = U) = false) := Lib.hid (decide_eq_false fun e => by
            have h1 := Hr.out.1
            rw [e, Hr.out.2] at h1
            exact hll (by rw [Option.some.inj h1]))
          clear hll
          go_wp2_with fail
          go_region
          go_wp2_with fail
          go_ret
          rw [Hxy.out]
          exact ⟨rfl, m + 1, rfl⟩
      · obtain rfl : i = T.length := by omega
        have Hxy : Hid (decide (T = U) = true) := Lib.hid (decide_eq_true (tab_ext Hl.out Hq.out))
        go_wp2_with fail
        go_ret
        rw [Hxy.out]
        exact ⟨rfl, m, rfl⟩
  · have d1 : ((T.length : Int) != (U.length : Int)) = true := by
      rw [bne, Bool.not_eq_true', beq_eq_false_iff_ne]; omega
    have d2 : ¬ ((T.length : Int) = (U.length : Int)) := by omega
    have Hxy : Hid (decide (T = U) = false) := Lib.hid (decide_eq_false fun e => hl (by rw [e]))
    rw [Hxy.out]
    clear hT hU
    go_enter Tryd.func13, Tryd.ntmps13
    go_wp2_with fail
    go_ret
    exact ⟨rfl, 0, rfl⟩
end Go.Proofs.YtlgiponfcmeiiaaDoor
