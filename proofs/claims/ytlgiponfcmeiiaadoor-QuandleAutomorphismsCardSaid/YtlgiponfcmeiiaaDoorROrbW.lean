/- The walk of the reference's Orbits. -/
import Derived.Test.YtlgiponfcmeiiaaDoorOrbW
namespace Go.Proofs.YtlgiponfcmeiiaaDoor
open Go Go.RowKit
theorem nth_natI (L : List Nat) (x : Nat) : nth (natI L) x = (lb L x : Int) := by
  unfold nth natI lb
  rw [List.getD_eq_getElem?_getD, List.getD_eq_getElem?_getD, List.getElem?_map]
  cases L[x]? <;> rfl
theorem natI_set (L : List Nat) (x m : Nat) : (natI L).set x (m : Int) = natI (L.set x m) := by
  unfold natI; rw [List.map_set]
/-- No edge ahead of (x, y) joins two labels. -/
def Calm (f : Nat → Nat → Nat) (n : Nat) (L : List Nat) (x y : Nat) : Prop := ∀ x', x' < n → ∀ y', y' < n → x' < x ∨ (x' = x ∧ y' < y) → lb L x' = lb L (f x' y')
theorem meas {s0 s1 m : Nat} {ch : Bool} (h : s0 = m) (h1 : s1 ≤ s0) (h2 : ch = true → s1 < s0) : 2 * s1 + (if ch = true then 1 else 0) < 2 * m + (if true = true then 1 else 0) := by
  cases ch with
  | true => have := h2 rfl; simp; omega
  | false => simp; omega
set_option maxRecDepth 100000 in
set_option maxHeartbeats 4000000 in
theorem rorb_any (b o : Nat) (P Q C : Nat → Nat) (n : Nat) (f : Nat → Nat → Nat) (c : Nat) (w : World) (h30 : n ≤ 30) (hG : Grd w b o P Q C n f) (hi : IvtN f n) :
    Calls Tryd.prog 21 #[.slice (some ⟨b, o, none⟩) n c] w fun e w' => ∃ A E, e = .returned (.slice A (orbT f n).length E) ∧ TabAt w' A (orbT f n) ∧ Below w.heap.size w w' := by
  have hmk := run_mk1 (T := 36) (z := .int .i64 0) (bytes := 8) Tryd.underlying36 Tryd.info3 rfl n n (Nat.le_refl _) (by omega) (by omega)
  have HG := Lib.hid hG
  have Hi := Lib.hid hi
  have Hlt : Hid (∀ x y, x < n → y < n → f x y < n) := Lib.hid hG.lt
  clear hG hi
  have H1 := Lib.hid ((HH.start w).alloc (Array.replicate n (.int .i64 0)) 3 rfl (vs := ints (natI (List.replicate n 0))) (by rw [replicate_ints, natI, List.map_replicate]; rfl))
  obtain ⟨wa, hwa⟩ : ∃ x, x = w.alloc (.cells (Array.replicate n (.int .i64 0)) 3) := ⟨_, rfl⟩
  rw [← hwa] at H1
  go_enter Tryd.func21, Tryd.ntmps21
  go_wp2_with fail
  rw [← hwa]
  clear hmk hwa
  have HL0 : Hid (∀ z, z < 0 → lb (List.replicate n 0) z = z) := Lib.hid fun z h => absurd h (Nat.not_lt_zero z)
  go_loopg [4] n (fun g v wr => ∃ (k : Nat) (L : List Nat), k ≤ n ∧ g = n - k ∧ v = .int .i64 k ∧ L.length = n ∧ (∀ z, z < k → lb L z = z) ∧ HH w wr [(w.heap.size, rowO 3 (ints (natI L)))] [])
  case atStart => exact ⟨0, List.replicate n 0, Nat.zero_le _, rfl, rfl, List.length_replicate, HL0.out, H1.out⟩
  case round =>
    obtain ⟨k, L, hk, rfl, rfl, hLn, hLz, hh⟩ := hrel
    have HLn := Lib.hid hLn
    have HLz := Lib.hid hLz
    have Hh := Lib.hid hh
    clear hLn hLz hh H1 HL0
    by_cases hkn : k < n
    · have hc0 := Hh.out.int (k := 0) rfl k (by rw [List.length_map, HLn.out]; exact hkn)
      rw [nth_natI] at hc0
      have hf0 := Hh.out.frozen (k := 0) rfl k
      have HN := Lib.hid (Hh.out.setInt (k := 0) rfl k (k : Int))
      rw [natI_set] at HN
      have HLz2 : Hid (∀ z, z < k + 1 → lb (L.set k k) z = z) := Lib.hid fun z h => by
        rw [lb_set (by rw [HLn.out]; exact hkn)]
        split
        · omega
        · exact HLz.out z (by omega)
      go_wp2_with fail
      go_roundg (n - (k + 1))
      case measure => omega
      case rel => exact ⟨k + 1, L.set k k, by omega, rfl, by go_num, by rw [List.length_set]; exact HLn.out, HLz2.out, HN.out⟩
    · obtain rfl : k = n := by omega
      have HLab : Hid (Lab f k L) := Lib.hid ⟨HLn.out, fun x hx => by rw [HLz.out x hx]; exact ⟨Nat.le_refl _, .refl _⟩⟩
      clear HLz HLn
      go_wp2_with fail
      go_loopg [5] (2 * L.sum + 1) (fun g v wr => ∃ (ch : Bool) (M : List Nat), v = .bool ch ∧ g = 2 * M.sum + (if ch = true then 1 else 0) ∧ Lab f k M ∧ (ch = false → Calm f k M k 0) ∧ HH w wr [(w.heap.size, rowO 3 (ints (natI M)))] [])
      case atStart => exact ⟨true, L, rfl, rfl, HLab.out, fun h => Bool.noConfusion h, Hh.out⟩
      case round =>
        obtain ⟨ch, M, rfl, rfl, hLab, hCalm, hh⟩ := hrel
        have HLM := Lib.hid hLab
        have HCa := Lib.hid hCalm
        replace Hh := Lib.hid hh
        clear hLab hCalm hh HLab
        cases ch with
        | true =>
          obtain ⟨s0, hs0⟩ : ∃ s0, s0 = M.sum := ⟨_, rfl⟩
          have Hs0 := Lib.hid hs0
          clear hs0 HCa
          go_wp2_with fail
          go_loopg [6, 5] k (fun g v s5 wr => ∃ (x : Nat) (ch : Bool) (M : List Nat), x ≤ k ∧ g = k - x ∧ v = .int .i64 x ∧ s5 = .bool ch ∧ Lab f k M ∧ M.sum ≤ s0 ∧ (ch = true → M.sum < s0) ∧ (ch = false → Calm f k M x 0) ∧ HH w wr [(w.heap.size, rowO 3 (ints (natI M)))] [])
          case atStart => exact ⟨0, false, M, Nat.zero_le _, rfl, rfl, rfl, HLM.out, Nat.le_of_eq Hs0.out.symm, fun h => Bool.noConfusion h, fun _ x' _ y' _ h => by omega, Hh.out⟩
          case round =>
            obtain ⟨x, ch, M1, hx, rfl, rfl, rfl, hLab, hle, hlt, hCalm, hh⟩ := hrel
            replace HLM := Lib.hid hLab
            have Hle := Lib.hid hle
            have Hls := Lib.hid hlt
            have HCa := Lib.hid hCalm
            replace Hh := Lib.hid hh
            clear hLab hle hlt hCalm hh
            by_cases hxk : x < k
            · go_wp2_with fail
              go_loopg [7, 5] k (fun g v s5 wr => ∃ (y : Nat) (ch : Bool) (M : List Nat), y ≤ k ∧ g = k - y ∧ v = .int .i64 y ∧ s5 = .bool ch ∧ Lab f k M ∧ M.sum ≤ s0 ∧ (ch = true → M.sum < s0) ∧ (ch = false → Calm f k M x y) ∧ HH w wr [(w.heap.size, rowO 3 (ints (natI M)))] [])
              case atStart => exact ⟨0, ch, M1, Nat.zero_le _, rfl, rfl, rfl, HLM.out, Hle.out, Hls.out, HCa.out, Hh.out⟩
              case round =>
                obtain ⟨y, ch, M2, hy, rfl, rfl, rfl, hLab, hle, hlt, hCalm, hh⟩ := hrel
                replace HLM := Lib.hid hLab
                replace Hle := Lib.hid hle
                replace Hls := Lib.hid hlt
                replace HCa := Lib.hid hCalm
                replace Hh := Lib.hid hh
                clear hLab hle hlt hCalm hh
                by_cases hyk : y < k
                · have h1 := (HG.out.later Hh.out.below).row x hxk
                  have h2 := (HG.out.later Hh.out.below).el x y hxk hyk
                  have hbk := Hlt.out x y hxk hyk
                  have hca := Hh.out.int (k := 0) rfl x (by rw [List.length_map, HLM.out.1]; exact hxk)
                  have hcb := Hh.out.int (k := 0) rfl (f x y) (by rw [List.length_map, HLM.out.1]; exact hbk)
                  rw [nth_natI] at hca hcb
                  by_cases he : lb M2 x = lb M2 (f x y)
                  · have HC2 : Hid (ch = false → Calm f k M2 x (y + 1)) := Lib.hid fun h x' hx' y' hy' g => by
                      by_cases e : x' = x ∧ y' = y
                      · rw [e.1, e.2]; exact he
                      · exact HCa.out h x' hx' y' hy' (by omega)
                    rw [he] at hca
                    clear he
                    generalize lb M2 (f x y) = la at *
                    generalize f x y = t at *
                    go_wp2_with fail
                    go_quiet (fail)
                    go_wp2_with fail
                    go_quiet (fail)
                    go_wp2_with fail
                    go_roundg (k - (y + 1))
                    case measure => omega
                    case rel => exact ⟨y + 1, ch, M2, by omega, rfl, by go_num, rfl, HLM.out, Hle.out, Hls.out, HC2.out, Hh.out.drewN _⟩
                  · have d1 : ((lb M2 x : Int) != (lb M2 (f x y) : Int)) = true := by rw [bne_iff_ne]; omega
                    have d2 : (lb M2 x != lb M2 (f x y)) = true := by rw [bne_iff_ne]; exact he
                    have hxy : f x y ≠ x := fun e => he (by rw [e])
                    have HS := Lib.hid (lab_step Hlt.out Hi.out HLM.out hxk hyk he)
                    obtain ⟨m, hm⟩ : ∃ m, min (lb M2 x) (lb M2 (f x y)) = m := ⟨_, rfl⟩
                    rw [hm] at HS
                    have hmin : min (lb M2 x : Int) (lb M2 (f x y) : Int) = (m : Int) := by omega
                    have HK : Hid (∀ N, HH w ((wr.drewN N).setCell ⟨w.heap.size, x, none⟩ (.int .i64 m)) [(w.heap.size, rowO 3 (ints (natI (M2.set x m))))] []) := Lib.hid fun N => by
                      have h := (Hh.out.drewN N).setInt (k := 0) rfl x (m : Int)
                      rw [natI_set] at h
                      exact h
                    have hk1 : ∀ N, ((wr.drewN N).setCell ⟨w.heap.size, x, none⟩ (.int .i64 m)).cell? ⟨w.heap.size, x, none⟩ = some (.int .i64 m) := fun N => by
                      have h := (HK.out N).int (k := 0) rfl x (by rw [List.length_map, List.length_set, HLM.out.1]; exact hxk)
                      rw [nth_natI, lb_set (by rw [HLM.out.1]; exact hxk), if_pos rfl] at h
                      exact h
                    have hk2 : ∀ N, ((wr.drewN N).setCell ⟨w.heap.size, x, none⟩ (.int .i64 m)).cell? ⟨w.heap.size, f x y, none⟩ = some (.int .i64 (lb M2 (f x y) : Nat)) := fun N => by
                      have h := (HK.out N).int (k := 0) rfl (f x y) (by rw [List.length_map, List.length_set, HLM.out.1]; exact hbk)
                      rw [nth_natI, lb_set (by rw [HLM.out.1]; exact hxk), if_neg hxy] at h
                      exact h
                    have hk3 : ∀ N, ((wr.drewN N).setCell ⟨w.heap.size, x, none⟩ (.int .i64 m)).frozen? ⟨w.heap.size, f x y, none⟩ = false := fun N => (HK.out N).frozen (k := 0) rfl _
                    have hfx := Hh.out.frozen (k := 0) rfl x
                    have HK2 : Hid (∀ N, HH w (((wr.drewN N).setCell ⟨w.heap.size, x, none⟩ (.int .i64 m)).setCell ⟨w.heap.size, f x y, none⟩ (.int .i64 m)) [(w.heap.size, rowO 3 (ints (natI ((M2.set x m).set (f x y) m))))] []) := Lib.hid fun N => by
                      have h := (HK.out N).setInt (k := 0) rfl (f x y) (m : Int)
                      rw [natI_set] at h
                      exact h
                    clear he hm
                    generalize lb M2 x = la at *
                    generalize lb M2 (f x y) = lbb at *
                    generalize f x y = t at *
                    go_wp2_with fail
                    go_quiet (fail)
                    go_wp2_with fail
                    go_quiet (fail)
                    go_wp2_with fail
                    go_region
                    go_wp2_with fail
                    go_roundg (k - (y + 1))
                    case measure => omega
                    case rel => exact ⟨y + 1, true, _, by omega, rfl, by go_num, rfl, HS.out.1, by have := HS.out.2; have := Hle.out; omega, fun _ => by have := HS.out.2; have := Hle.out; omega, fun h => Bool.noConfusion h, HK2.out _⟩
                · obtain rfl : y = k := by omega
                  go_wp2_with fail
                  go_roundg (y - (x + 1))
                  case measure => omega
                  case rel => exact ⟨x + 1, ch, M2, by omega, rfl, by go_num, rfl, HLM.out, Hle.out, Hls.out, fun h x' hx' y' hy' g => HCa.out h x' hx' y' hy' (by omega), Hh.out⟩
            · obtain rfl : x = k := by omega
              go_wp2_with fail
              go_roundg (2 * M1.sum + (if ch = true then 1 else 0))
              case measure => exact meas Hs0.out Hle.out Hls.out
              case rel => exact ⟨ch, M1, rfl, rfl, HLM.out, HCa.out, Hh.out⟩
        | false =>
          have HE : Hid (∀ x, x < k → ∀ y, y < k → lb M x = lb M (f x y)) := Lib.hid fun x hx y hy => HCa.out rfl x hx y hy (.inl hx)
          have HLe : Hid (∀ u, u < k → (0 < (labK M u k).length ↔ Ldr f k u) ∧ (Ldr f k u → labK M u k = cls f k u)) := Lib.hid fun u hu => labK_end Hlt.out Hi.out HLM.out HE.out hu
          have HMl := Lib.hid HLM.out.1
          obtain ⟨i0, hi0, hz0, hz1, hz2⟩ := info_parts Tryd.info3
          obtain ⟨j0, hj0, hy0, hy1, hy2⟩ := info_parts Tryd.info36
          clear HCa HLM HE Hi Hlt
          go_wp2_with fail
          go_loopg [11, 10] k (fun g v s10 wr => ∃ (u : Nat) (A : Option Addr) (E : Nat) (ms : List SlO), u ≤ k ∧ g = k - u ∧ v = .int .i64 u ∧ s10 = .slice A ms.length E ∧ Rws ms (orbK f k u) ∧ HH w wr [(w.heap.size, rowO 3 (ints (natI M)))] (⟨A, E, 36, ms.map slV⟩ :: ms))
          case atStart => exact ⟨0, none, 0, [], Nat.zero_le _, rfl, rfl, rfl, Rws.nil, Hh.out.addNil 36⟩
          case round =>
            obtain ⟨u, A, E, ms, hu, rfl, rfl, rfl, hRw, hh⟩ := hrel
            have HRw := Lib.hid hRw
            replace Hh := Lib.hid hh
            clear hRw hh
            have hml : ms.length ≤ k := by rw [HRw.out.1]; exact Nat.le_trans (orbK_len f k u) hu
            by_cases huk : u < k
            · have Hs0 := Lib.hid (Hh.out.addNil 3)
              clear Hh
              go_wp2_with fail
              go_loopg [13, 12] k (fun g v s12 wr => ∃ (y : Nat) (A2 : Option Addr) (E2 : Nat), y ≤ k ∧ g = k - y ∧ v = .int .i64 y ∧ s12 = .slice A2 (labK M u y).length E2 ∧ HH w wr [(w.heap.size, rowO 3 (ints (natI M)))] (⟨A, E, 36, ms.map slV⟩ :: ms ++ [⟨A2, E2, 3, ints (labK M u y)⟩]))
              case atStart => exact ⟨0, _, _, Nat.zero_le _, rfl, rfl, rfl, Hs0.out⟩
              case round =>
                obtain ⟨y, A2, E2, hy, rfl, rfl, rfl, hh⟩ := hrel
                have Hh := Lib.hid hh
                clear hh
                have hll : (labK M u y).length ≤ 30 := by have := labK_len M u y; omega
                by_cases hyk : y < k
                · have hcl := Hh.out.int (k := 0) rfl y (by rw [List.length_map, HMl.out]; exact hyk)
                  rw [nth_natI] at hcl
                  by_cases he : lb M y = u
                  · have Hri := Lib.hid (labK_yes (k := u) (j := y) he)
                    rw [he] at hcl
                    have Hn0 : Hid ((ints (labK M u y)).length = (labK M u y).length) := Lib.hid (ints_length _)
                    clear he
                    generalize labK M u y = ls at *
                    have Ha0 := Lib.hid (Hh.out.call ((Below.refl _ _).alloc (Nat.le_refl _) (.cells #[.int .i64 (y : Int)] 3)))
                    have Hc0 : Hid ((wr.alloc (.cells #[.int .i64 (y : Int)] 3)).cell? ⟨wr.heap.size, 0, none⟩ = some (.int .i64 (y : Int))) := Lib.hid ((Row.new wr #[.int .i64 (y : Int)] 3).cell 0)
                    have Hl1 : Hid (w.heap.size ≤ (wr.alloc (.cells #[.int .i64 (y : Int)] 3)).heap.size) := Lib.hid Ha0.out.below.size
                    go_wp2_with (with_reducible refine wpList_append_one rfl (.tmp 94) (.tmp 96) 36 rfl w.heap.size 3 i0 (.int .i64 0) 8 Tryd.underlying36 hi0 hz0 hz1 hz2 rfl A2 ls.length E2 (ints ls) rfl Hn0.out (Ha0.out.sl (nthO_last _ _)) _ 1 (.int .i64 (y : Int)) rfl Hc0.out rfl (by omega) (by omega) Hl1.out ?_; intro A3 e3 w2 hO2 hT2 hA2; have H2 := Lib.hid (Ha0.out.grow (nthO_last _ _) hO2 hT2 hA2); clear hO2 hT2 hA2)
                    go_roundg (k - (y + 1))
                    case measure => omega
                    case rel =>
                      refine ⟨y + 1, A3, e3, by omega, rfl, by go_num, by rw [Hri.out, List.length_append]; rfl, ?_⟩
                      have h := H2.out
                      rw [setO_last, ints_snoc] at h
                      rw [Hri.out]
                      exact h
                  · have Hri := Lib.hid (labK_no (k := u) (j := y) he)
                    have d1 : ((lb M y : Int) == (u : Int)) = false := by rw [beq_eq_false_iff_ne]; omega
                    have d2 : (lb M y == u) = false := by rw [beq_eq_false_iff_ne]; exact he
                    clear he
                    generalize lb M y = la at *
                    go_wp2_with fail
                    go_roundg (k - (y + 1))
                    case measure => omega
                    case rel => exact ⟨y + 1, A2, E2, by omega, rfl, by go_num, by rw [Hri.out], by rw [Hri.out]; exact Hh.out⟩
                · obtain rfl : y = k := by omega
                  obtain ⟨hL1, hL2⟩ := HLe.out u huk
                  by_cases hld : Ldr f y u
                  · have hpos := hL1.2 hld
                    have Hk1 := Lib.hid (orbK_yes hld)
                    rw [hL2 hld] at Hh hll hpos
                    rw [hL2 hld]
                    clear hL1 hL2 hld
                    have Hsn := Lib.hid fun a c => HRw.out.snoc a c (cls f y u)
                    have Hlc : Hid (∀ a c, slV ⟨a, c, 3, ints (cls f y u)⟩ = .slice a (cls f y u).length c) := Lib.hid fun a c => by unfold slV; rw [ints_length]
                    generalize cls f y u = ls at *
                    have d1 : decide ((0 : Int) < (ls.length : Int)) = true := decide_eq_true (by omega)
                    have d2 : decide (0 < ls.length) = true := decide_eq_true hpos
                    have Hmn : Hid ((ms.map slV).length = ms.length) := Lib.hid (by rw [List.length_map])
                    have Ha0 := Lib.hid (Hh.out.call ((Below.refl _ _).alloc (Nat.le_refl _) (.cells #[.slice A2 ls.length E2] 36)))
                    have Hc0 : Hid ((wr.alloc (.cells #[.slice A2 ls.length E2] 36)).cell? ⟨wr.heap.size, 0, none⟩ = some (.slice A2 ls.length E2)) := Lib.hid ((Row.new wr #[.slice A2 ls.length E2] 36).cell 0)
                    have Hl1 : Hid (w.heap.size ≤ (wr.alloc (.cells #[.slice A2 ls.length E2] 36)).heap.size) := Lib.hid Ha0.out.below.size
                    go_wp2_with (with_reducible refine wpList_append_one rfl (.tmp 101) (.tmp 103) 23 rfl w.heap.size 36 j0 (.slice none 0 0) 24 Tryd.underlying23 hj0 hy0 hy1 hy2 rfl A ms.length E (ms.map slV) rfl Hmn.out (Ha0.out.sl (k := 0) rfl) _ 1 (.slice A2 ls.length E2) rfl Hc0.out rfl (by omega) (by omega) Hl1.out ?_; intro A3 e3 w2 hO2 hT2 hA2; have H2 := Lib.hid (Ha0.out.grow (k := 0) rfl hO2 hT2 hA2); clear hO2 hT2 hA2)
                    go_roundg (y - (u + 1))
                    case measure => omega
                    case rel =>
                      refine ⟨u + 1, A3, e3, ms ++ [⟨A2, E2, 3, ints ls⟩], by omega, rfl, by go_num, by rw [List.length_append]; rfl, by rw [Hk1.out]; exact Hsn.out A2 E2, ?_⟩
                      have h := H2.out
                      have e2' : List.map slV [(⟨A2, E2, 3, ints ls⟩ : SlO)] = [.slice A2 ls.length E2] := by
                        show [slV _] = _
                        rw [Hlc.out]
                      rw [List.map_append, e2']
                      exact h
                  · have hz : ¬ 0 < (labK M u y).length := fun h => hld (hL1.1 h)
                    have Hk1 := Lib.hid (orbK_no hld)
                    have d1 : decide ((0 : Int) < ((labK M u y).length : Int)) = false := decide_eq_false (by omega)
                    have d2 : decide (0 < (labK M u y).length) = false := decide_eq_false hz
                    clear hL1 hL2 hld hz
                    generalize labK M u y = ls at *
                    go_wp2_with fail
                    go_roundg (y - (u + 1))
                    case measure => omega
                    case rel => exact ⟨u + 1, A, E, ms, by omega, rfl, by go_num, rfl, by rw [Hk1.out]; exact HRw.out, Hh.out.forget (List.sublist_append_left _ _)⟩
            · obtain rfl : u = k := by omega
              have HF : Hid (TabAt wr A (orbT f u)) := Lib.hid (HRw.out.tab Hh.out)
              have Hml : Hid (ms.length = (orbT f u).length) := Lib.hid HRw.out.1
              go_wp2_with fail
              go_ret
              exact ⟨A, E, by rw [Hml.out]; rfl, HF.out, Hh.out.below⟩
end Go.Proofs.YtlgiponfcmeiiaaDoor
