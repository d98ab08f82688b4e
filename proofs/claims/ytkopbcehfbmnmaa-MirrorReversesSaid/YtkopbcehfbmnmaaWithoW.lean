/- The walk of mirror.without. -/
import Derived.Test.YtkopbcehfbmnmaaSmoothC
import Derived.Test.YtkopbcehfbmnmaaHeap
import Derived.Test.YtkopbcehfbmnmaaMirW
namespace Go.Proofs.Ytkopbcehfbmnmaa
open Go Go.RowKit
set_option maxRecDepth 100000 in
set_option maxHeartbeats 8000000 in
theorem without_any (S M2 : List Int) (g : Nat → Nat) (c : Nat) (L : Int) (aS aM : Option Addr) (cS cM : Nat) (w : World) (hSl : S.length ≤ 64) (hM4 : M2.length = 4 * S.length)
    (hg : ∀ h, h < 4 * S.length → h / 4 ≠ c → nth M2 h = ((g h : Nat) : Int) ∧ g h < 4 * S.length) (hS : IntsAt w aS S) (hM : IntsAt w aM M2) :
    Calls Try.prog 128 #[.slice aS S.length cS, .slice aM M2.length cM, .int .i64 (c : Int), .int .i64 L] w fun e w' => ∃ (a b : Option Addr) (c' d : Nat),
      e = .returned (.agg #[.slice a (woS S c S.length).length c', .slice b (woM g c S.length).length d, .int .i64 L]) ∧ Own w' w.heap.size 3 a c' (ints (woS S c S.length)) ∧ Own w' w.heap.size 3 b d (ints (woM g c S.length)) ∧ Below w.heap.size w w' := by
  have hMa : M2.length ≤ 4 * S.length := by omega
  have hMb : 4 * S.length ≤ M2.length := by omega
  obtain ⟨i0, hi, hz0, hz1, hz2⟩ := info_parts Try.info3
  obtain ⟨W, hW⟩ : ∃ W, W = (w.alloc (.cells #[.slice none 0 0, .slice none 0 0, .int .i64 0] 24)).alloc (.cells #[.slice none 0 0, .slice none 0 0, .int .i64 L] 24) := ⟨_, rfl⟩
  have h0 : HH w W [(w.heap.size, rowO 24 [.slice none 0 0, .slice none 0 0, .int .i64 0]), (w.heap.size + 1, rowO 24 [.slice none 0 0, .slice none 0 0, .int .i64 L])] [⟨none, 0, 3, ints []⟩, ⟨none, 0, 3, ints []⟩] := by
    rw [hW]; exact ((((HH.start w).alloc #[.slice none 0 0, .slice none 0 0, .int .i64 0] 24 rfl rfl).alloc #[.slice none 0 0, .slice none 0 0, .int .i64 L] 24 (by simp) rfl).addNil 3).addNil 3
  have H0 := Lib.hid h0
  have HS := Lib.hid hS
  have HM := Lib.hid hM
  have Hg := Lib.hid hg
  clear hS hM hg h0 hM4
  go_enter Try.func128, Try.ntmps128
  go_wp2_with fail
  rw [← hW]
  clear hW
  go_loopg [18] S.length (fun gg v wr => ∃ (k : Nat) (a1 a2 : Option Addr) (c1 c2 : Nat), k ≤ S.length ∧ gg = S.length - k ∧ v = .int .i64 k ∧ HH w wr [(w.heap.size, rowO 24 [.slice none 0 0, .slice none 0 0, .int .i64 0]), (w.heap.size + 1, rowO 24 [.slice a1 (woS S c k).length c1, .slice a2 (woM g c k).length c2, .int .i64 L])] [⟨a1, c1, 3, ints (woS S c k)⟩, ⟨a2, c2, 3, ints (woM g c k)⟩])
  case atStart => exact ⟨0, none, none, 0, 0, Nat.zero_le _, rfl, rfl, H0.out⟩
  case round =>
    clear H0
    obtain ⟨k, a1, a2, c1, c2, hk, rfl, rfl, hh⟩ := hrel
    have Hh := Lib.hid hh
    clear hh
    by_cases hkl : k < S.length
    · obtain ⟨bS, oS, hab, _, hcS⟩ := (Hh.out.came HS.out).open (by omega)
      subst hab
      have hcc := hcS k hkl
      clear hcS
      by_cases hkc : k = c
      · have Hs : Hid (woS S c (k + 1) = woS S c k ∧ woM g c (k + 1) = woM g c k) := Lib.hid ⟨if_pos hkc, if_pos hkc⟩
        subst hkc
        generalize nth S k = sk at *
        go_wp2_with fail
        go_roundg (S.length - (k + 1))
        case measure => omega
        case rel => exact ⟨k + 1, a1, a2, c1, c2, by omega, rfl, by go_num, by rw [Hs.out.1, Hs.out.2]; exact Hh.out⟩
      · have hk1 : ¬ ((k : Int) = (c : Int)) := by omega
        have hk2 : ((k : Int) == (c : Int)) = false := by rw [beq_eq_false_iff_ne]; exact hk1
        have Hs : Hid (woS S c (k + 1) = woS S c k ++ [nth S k] ∧ woM g c (k + 1) = woM g c k ++ woR g c k 4) := Lib.hid ⟨if_neg hkc, if_neg hkc⟩
        have Hkc := Lib.hid hkc
        clear hkc
        have hs1 : (woS S c k).length ≤ k := by rw [woS_len]; split <;> omega
        have hs2 : (woM g c k).length ≤ 4 * k := by rw [woM_len]; split <;> omega
        generalize nth S k = sk at *
        generalize woS S c k = xs at *
        generalize woM g c k = ys at *
        have hb0 := Hh.out.cell (k := 1) (i := 0) rfl rfl
        have Ha0 := Lib.hid (Hh.out.call ((Below.refl _ _).alloc (Nat.le_refl _) (.cells #[.int .i64 (sk)] 3)))
        have Hc0 : Hid ((wr.alloc (.cells #[.int .i64 (sk)] 3)).cell? ⟨wr.heap.size, 0, none⟩ = some (.int .i64 (sk))) := Lib.hid ((Row.new wr #[.int .i64 (sk)] 3).cell 0)
        have Hl0 : Hid (w.heap.size ≤ (wr.alloc (.cells #[.int .i64 (sk)] 3)).heap.size) := Lib.hid Ha0.out.below.size
        have Hn0 : Hid ((ints xs).length = xs.length) := Lib.hid (by rw [ints_length])
        go_wp2_with (with_reducible refine wpList_append_one rfl (.tmp 27) (.tmp 29) 22 rfl w.heap.size 3 i0 (.int .i64 0) 8 Try.underlying22 hi hz0 hz1 hz2 rfl a1 xs.length c1 (ints xs) rfl Hn0.out (Ha0.out.sl (k := 0) rfl) _ 1 (.int .i64 (sk)) rfl Hc0.out rfl (by omega) (by omega) Hl0.out ?_; intro A2 e2 w2 hO2 hT2 hA2; have H2 := Ha0.out.grow (k := 0) rfl hO2 hT2 hA2; have hd := H2.cell (k := 1) (i := 0) rfl rfl; have hf := H2.frozen (k := 1) rfl 0; have H3 := Lib.hid (H2.set (k := 1) rfl 0 (.slice A2 (xs.length + 1) e2)); clear H2 hO2 hT2 hA2)
        clear hb0 hd hf Ha0 Hc0 Hl0 Hn0
        have H4 : Hid (HH w (w2.setCell ⟨w.heap.size + 1, 0, none⟩ (.slice A2 (xs.length + 1) e2)) [(w.heap.size, rowO 24 [.slice none 0 0, .slice none 0 0, .int .i64 0]), (w.heap.size + 1, rowO 24 [.slice A2 (xs ++ [sk]).length e2, .slice a2 ys.length c2, .int .i64 L])] [⟨A2, e2, 3, ints (xs ++ [sk])⟩, ⟨a2, c2, 3, ints ys⟩]) := Lib.hid (by
          have h := H3.out
          rw [ints_snoc] at h
          rw [List.length_append]; exact h)
        clear H3
        obtain ⟨w3, hw3⟩ : ∃ x, x = w2.setCell ⟨w.heap.size + 1, 0, none⟩ (.slice A2 (xs.length + 1) e2) := ⟨_, rfl⟩
        rw [← hw3] at H4
        rw [← hw3]
        clear hw3
        go_loopg [32] 4 (fun gg v wi => ∃ (s : Nat) (b2 : Option Addr) (d2 : Nat), s ≤ 4 ∧ gg = 4 - s ∧ v = .int .i64 s ∧ HH w wi [(w.heap.size, rowO 24 [.slice none 0 0, .slice none 0 0, .int .i64 0]), (w.heap.size + 1, rowO 24 [.slice A2 (xs ++ [sk]).length e2, .slice b2 (ys ++ woR g c k s).length d2, .int .i64 L])] [⟨A2, e2, 3, ints (xs ++ [sk])⟩, ⟨b2, d2, 3, ints (ys ++ woR g c k s)⟩])
        case atStart => exact ⟨0, a2, c2, Nat.zero_le _, rfl, rfl, by rw [show woR g c k 0 = [] from rfl, List.append_nil]; exact H4.out⟩
        case round =>
          clear H4 Hh
          obtain ⟨s, b2, d2, hs, rfl, rfl, hh⟩ := hrel
          have Hh := Lib.hid hh
          clear hh
          by_cases hs4 : s < 4
          · obtain ⟨bM, oM, hab, _, hcM⟩ := (Hh.out.came HM.out).open (by omega)
            subst hab
            obtain ⟨g1, g2⟩ := Hg.out (4 * k + s) (by omega) (by have := Hkc.out; omega)
            have hcm := hcM (4 * k + s) (by omega)
            rw [g1] at hcm
            have Hr : Hid (ys ++ woR g c k (s + 1) = (ys ++ woR g c k s) ++ [((dn c (g (4 * k + s)) : Nat) : Int)]) := Lib.hid (by rw [woR, List.append_assoc])
            have hrl : (ys ++ woR g c k s).length ≤ 4 * k + 4 := by rw [List.length_append, woR_len]; omega
            have hix : (((4 * k + s : Nat) : Int)) = 4 * (k : Int) + (s : Int) := by omega
            have hb1 := Hh.out.cell (k := 1) (i := 1) rfl rfl
            clear hcM g1
            generalize g (4 * k + s) = m at *
            generalize ys ++ woR g c k s = zs at *
            clear hix
            by_cases hgt : m / 4 > c
            · have hd : dn c m = m - 4 := if_pos hgt
              have ht1 : decide ((c : Int) < (m : Int) / 4) = true := decide_eq_true (by omega)
              have hm4 : 4 ≤ m := by omega
              have Hd : Hid (((dn c m : Nat) : Int) = (m : Int) - 4) := Lib.hid (by omega)
              clear hd hgt
              have Ha1 := Lib.hid (Hh.out.call ((Below.refl _ _).alloc (Nat.le_refl _) (.cells #[.int .i64 ((m : Int) - 4)] 3)))
              have Hc1 : Hid ((wr.alloc (.cells #[.int .i64 ((m : Int) - 4)] 3)).cell? ⟨wr.heap.size, 0, none⟩ = some (.int .i64 ((m : Int) - 4))) := Lib.hid ((Row.new wr #[.int .i64 ((m : Int) - 4)] 3).cell 0)
              have Hl1 : Hid (w.heap.size ≤ (wr.alloc (.cells #[.int .i64 ((m : Int) - 4)] 3)).heap.size) := Lib.hid Ha1.out.below.size
              have Hn1 : Hid ((ints zs).length = zs.length) := Lib.hid (by rw [ints_length])
              go_wp2_with (with_reducible refine wpList_append_one rfl (.tmp 49) (.tmp 51) 22 rfl w.heap.size 3 i0 (.int .i64 0) 8 Try.underlying22 hi hz0 hz1 hz2 rfl b2 zs.length d2 (ints zs) rfl Hn1.out (Ha1.out.sl (k := 1) rfl) _ 1 (.int .i64 ((m : Int) - 4)) rfl Hc1.out rfl (by omega) (by omega) Hl1.out ?_; intro A3 c3 w3 hO2 hT2 hA2; have H2 := Ha1.out.grow (k := 1) rfl hO2 hT2 hA2; have hd := H2.cell (k := 1) (i := 1) rfl rfl; have hf := H2.frozen (k := 1) rfl 1; have H3 := Lib.hid (H2.set (k := 1) rfl 1 (.slice A3 (zs.length + 1) c3)); clear H2 hO2 hT2 hA2)
              go_roundg (4 - (s + 1))
              case measure => omega
              case rel =>
                refine ⟨s + 1, A3, c3, by omega, rfl, by go_num, ?_⟩
                have h := H3.out
                rw [ints_snoc] at h
                rw [Hr.out, Hd.out, show (zs ++ [(m : Int) - 4]).length = zs.length + 1 from List.length_append]; exact h
            · have hd : dn c m = m := if_neg hgt
              have ht1 : decide ((c : Int) < (m : Int) / 4) = false := decide_eq_false (by omega)
              have Hd : Hid (((dn c m : Nat) : Int) = (m : Int)) := Lib.hid (by omega)
              clear hd hgt
              have Ha1 := Lib.hid (Hh.out.call ((Below.refl _ _).alloc (Nat.le_refl _) (.cells #[.int .i64 ((m : Int))] 3)))
              have Hc1 : Hid ((wr.alloc (.cells #[.int .i64 ((m : Int))] 3)).cell? ⟨wr.heap.size, 0, none⟩ = some (.int .i64 ((m : Int)))) := Lib.hid ((Row.new wr #[.int .i64 ((m : Int))] 3).cell 0)
              have Hl1 : Hid (w.heap.size ≤ (wr.alloc (.cells #[.int .i64 ((m : Int))] 3)).heap.size) := Lib.hid Ha1.out.below.size
              have Hn1 : Hid ((ints zs).length = zs.length) := Lib.hid (by rw [ints_length])
              go_wp2_with (with_reducible refine wpList_append_one rfl (.tmp 49) (.tmp 51) 22 rfl w.heap.size 3 i0 (.int .i64 0) 8 Try.underlying22 hi hz0 hz1 hz2 rfl b2 zs.length d2 (ints zs) rfl Hn1.out (Ha1.out.sl (k := 1) rfl) _ 1 (.int .i64 ((m : Int))) rfl Hc1.out rfl (by omega) (by omega) Hl1.out ?_; intro A3 c3 w3 hO2 hT2 hA2; have H2 := Ha1.out.grow (k := 1) rfl hO2 hT2 hA2; have hd := H2.cell (k := 1) (i := 1) rfl rfl; have hf := H2.frozen (k := 1) rfl 1; have H3 := Lib.hid (H2.set (k := 1) rfl 1 (.slice A3 (zs.length + 1) c3)); clear H2 hO2 hT2 hA2)
              go_roundg (4 - (s + 1))
              case measure => omega
              case rel =>
                refine ⟨s + 1, A3, c3, by omega, rfl, by go_num, ?_⟩
                have h := H3.out
                rw [ints_snoc] at h
                rw [Hr.out, Hd.out, show (zs ++ [(m : Int)]).length = zs.length + 1 from List.length_append]; exact h
          · obtain rfl : s = 4 := by omega
            go_wp2_with fail
            go_roundg (S.length - (k + 1))
            case measure => omega
            case rel => exact ⟨k + 1, A2, b2, e2, d2, by omega, rfl, by go_num, by rw [Hs.out.1, Hs.out.2]; exact Hh.out⟩
    · obtain rfl : k = S.length := by omega
      have hb0 := Hh.out.cell (k := 1) (i := 0) rfl rfl
      have hb1 := Hh.out.cell (k := 1) (i := 1) rfl rfl
      have hb2 := Hh.out.cell (k := 1) (i := 2) rfl rfl
      have hd0 := Hh.out.cell (k := 0) (i := 0) rfl rfl
      have hd1 := Hh.out.cell (k := 0) (i := 1) rfl rfl
      have hd2 := Hh.out.cell (k := 0) (i := 2) rfl rfl
      have hf0 := Hh.out.frozen (k := 0) rfl 0
      have hf1 := Hh.out.frozen (k := 0) rfl 1
      have hf2 := Hh.out.frozen (k := 0) rfl 2
      have H6 := ((Hh.out.set (k := 0) rfl 0 (.slice a1 (woS S c S.length).length c1)).set (k := 0) rfl 1 (.slice a2 (woM g c S.length).length c2)).set (k := 0) rfl 2 (.int .i64 L)
      have hF0 := H6.cell (k := 0) (i := 0) rfl rfl
      have hF1 := H6.cell (k := 0) (i := 1) rfl rfl
      have hF2 := H6.cell (k := 0) (i := 2) rfl rfl
      have Hfin := Lib.hid (And.intro (H6.sl (k := 0) rfl) (And.intro (H6.sl (k := 1) rfl) H6.below))
      clear H6
      go_wp2_with fail
      refine bodyPost_ret (v := .agg #[.slice a1 (woS S c S.length).length c1, .slice a2 (woM g c S.length).length c2, .int .i64 L]) (by simp [results, Try.results128, go_sem, hF0, hF1, hF2]) rfl ?_
      exact ⟨a1, a2, c1, c2, rfl, Hfin.out⟩
end Go.Proofs.Ytkopbcehfbmnmaa
