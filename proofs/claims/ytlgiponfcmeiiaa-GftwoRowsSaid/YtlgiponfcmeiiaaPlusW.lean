/- The walk of the law's own 'plus': the sum of two rows. -/
import Derived.Test.YtlgiponfcmeiiaaSparW
namespace Go.Proofs.Ytlgiponfcmeiiaa
open Go Go.RowKit
/-- The bits of z, turned at the first j places of a row. -/
def dfl (C z : Nat) (row : List Int) (j : Nat) : List Bool := (List.range C).map fun k : Nat => (decide ((k : Int) ∈ row.take j)) ^^ (z.testBit k)
theorem bitsB_zero (C : Nat) : bitsB C 0 = List.replicate C false := by
  apply List.ext_getElem
  · simp [bitsB]
  · intro i h1 h2; simp [bitsB]
theorem dfl_len (C z : Nat) (row : List Int) (j : Nat) : (dfl C z row j).length = C := by simp [dfl]
theorem dfl_zero (C z : Nat) (row : List Int) : dfl C z row 0 = bitsB C z := List.map_congr_left fun k _ => by simp
theorem dfl_all (C z y : Nat) : dfl C z (rowOf C y) (rowOf C y).length = bitsB C (z ^^^ y) := List.map_congr_left fun k hk => by
  have hkC := List.mem_range.1 hk
  rw [List.take_length, Nat.testBit_xor, Bool.xor_comm]
  congr 1
  rw [Bool.eq_iff_iff, decide_eq_true_eq, mem_rowOf, Int.toNat_natCast]
  exact ⟨fun h => h.2.2, fun h => ⟨by omega, by omega, h⟩⟩
theorem take_snoc' (row : List Int) {j : Nat} (h : j < row.length) : row.take (j + 1) = row.take j ++ [nth row j] := by
  rw [List.take_succ_eq_append_getElem h]
  simp [nth, h]
theorem asc_fresh {C : Int} {row : List Int} (hr : Asc C row) {j c : Nat} (hj : j < row.length) (hc : nth row j = (c : Int)) : (c : Int) ∉ row.take j := fun h => by
  have hp := hr.1
  rw [← List.take_append_drop j row, List.pairwise_append] at hp
  have hd : nth row j ∈ row.drop j := by
    rw [drop_cons row j hj]; exact List.mem_cons_self
  have := hp.2.2 _ h _ hd
  omega
theorem dfl_get {D : Int} {C z : Nat} {row : List Int} (hr : Asc D row) {j c : Nat} (hj : j < row.length) (hc : nth row j = (c : Int)) (hcC : c < C) : bth (dfl C z row j) c = z.testBit c := by
  unfold bth dfl
  simp [hcC, asc_fresh hr hj hc]
theorem dfl_set {D : Int} {C z : Nat} {row : List Int} (hr : Asc D row) {j c : Nat} (hj : j < row.length) (hc : nth row j = (c : Int)) : (dfl C z row j).set c (!z.testBit c) = dfl C z row (j + 1) := by
  apply List.ext_getElem
  · simp [dfl]
  · intro i h1 h2
    rw [List.getElem_set]
    simp only [dfl, List.getElem_map, List.getElem_range]
    rw [take_snoc' row hj, hc]
    by_cases e : c = i
    · subst e
      rw [if_pos rfl, decide_eq_true (List.mem_append.2 (.inr (List.mem_singleton.2 rfl)))]
      simp
    · rw [if_neg e]
      congr 1
      rw [Bool.eq_iff_iff, decide_eq_true_eq, decide_eq_true_eq, List.mem_append, List.mem_singleton]
      exact ⟨.inl, fun h => h.elim id fun g => absurd (Int.ofNat.inj g).symm e⟩
set_option maxRecDepth 100000 in
set_option maxHeartbeats 4000000 in
theorem plus_any (C x y : Nat) (hC : C ≤ 65536) (a b : Option Addr) (c d : Nat) (w : World) (hA : IntsAt w a (rowOf C x)) (hB : IntsAt w b (rowOf C y)) :
    Calls Try.prog 19 #[.slice a (rowOf C x).length c, .slice b (rowOf C y).length d, .int .i64 (C : Int)] w fun e w' => ∃ A E, e = .returned (.slice A (rowOf C (x ^^^ y)).length E) ∧ Own w' w.heap.size 3 A E (ints (rowOf C (x ^^^ y))) ∧ Below w.heap.size w w' := by
  have hmk := run_mk1 (T := 52) (z := .bool false) (bytes := 1) Try.underlying52 Try.info4 rfl C C (Nat.le_refl _) (by omega) (by omega)
  obtain ⟨i0, hi0, hz0, hz1, hz2⟩ := info_parts Try.info3
  have HA : Hid (∀ W', Below w.heap.size w W' → IntsAt W' a (rowOf C x)) := Lib.hid fun W' h => hA.later h
  have HB : Hid (∀ W', Below w.heap.size w W' → IntsAt W' b (rowOf C y)) := Lib.hid fun W' h => hB.later h
  have HX : Hid (Asc C (rowOf C x)) := Lib.hid (rowOf_asc _ _)
  have HY : Hid (Asc C (rowOf C y)) := Lib.hid (rowOf_asc _ _)
  have HX2 : Hid (dfl C 0 (rowOf C x) (rowOf C x).length = bitsB C x) := Lib.hid (by rw [dfl_all, Nat.zero_xor])
  have HY2 : Hid (dfl C x (rowOf C y) (rowOf C y).length = bitsB C (x ^^^ y)) := Lib.hid (dfl_all _ _ _)
  have hl1 : (rowOf C x).length ≤ 65536 := Nat.le_trans (rowOf_len _ _) hC
  have hl2 : (rowOf C y).length ≤ 65536 := Nat.le_trans (rowOf_len _ _) hC
  have H1 := Lib.hid ((HH.start w).alloc (Array.replicate C (.bool false)) 4 rfl (vs := bools (dfl C 0 (rowOf C x) 0)) (by rw [replicate_bools, dfl_zero, bitsB_zero]))
  clear hA hB
  generalize rowOf C x = r1 at *
  generalize rowOf C y = r2 at *
  generalize x ^^^ y = z at *
  obtain ⟨wa, hwa⟩ : ∃ x, x = w.alloc (.cells (Array.replicate C (.bool false)) 4) := ⟨_, rfl⟩
  rw [← hwa] at H1
  obtain ⟨t, ht⟩ : ∃ t, t = w.heap.size := ⟨_, rfl⟩
  go_enter Try.func19, Try.ntmps19
  go_wp2_with fail
  rw [← hwa]
  clear hwa hmk
  rw [← ht]
  rw [← ht] at H1
  clear ht
  go_loopg [18] r1.length (fun g v wr => ∃ j : Nat, j ≤ r1.length ∧ g = r1.length - j ∧ v = .int .i64 j ∧ HH w wr [(t, rowO 4 (bools (dfl C 0 r1 j)))] [])
  case atStart => exact ⟨0, Nat.zero_le _, rfl, rfl, H1.out⟩
  case round =>
    obtain ⟨j, hj, rfl, rfl, hh⟩ := hrel
    have Hs := Lib.hid hh
    clear hh H1
    by_cases hjl : j < r1.length
    · obtain ⟨b2, o2, rfl, _, hcR⟩ := (HA.out wr Hs.out.below).open (by omega)
      have hcx := hcR j hjl
      obtain ⟨hx0, hx1⟩ := HX.out.2 _ (nth_mem r1 j hjl)
      obtain ⟨cc, hcc⟩ : ∃ cc : Nat, nth r1 j = (cc : Int) := ⟨(nth r1 j).toNat, by omega⟩
      rw [hcc] at hcx hx1
      have hcn : cc < C := by omega
      have hcl := Hs.out.bool (k := 0) rfl cc (by rw [dfl_len]; exact hcn)
      have hfr := Hs.out.frozen (k := 0) rfl cc
      rw [dfl_get HX.out hjl hcc hcn] at hcl
      have HN := Lib.hid (Hs.out.setBool (k := 0) rfl cc (!Nat.testBit 0 cc))
      rw [dfl_set HX.out hjl hcc] at HN
      clear hcR hx0 hx1 hcc
      generalize Nat.testBit 0 cc = v0 at *
      go_wp2_with fail
      go_roundg (r1.length - (j + 1))
      case measure => omega
      case rel => exact ⟨j + 1, by omega, rfl, by go_num, HN.out⟩
    · obtain rfl : j = r1.length := by omega
      rw [HX2.out, ← dfl_zero C x r2] at Hs
      go_wp2_with fail
      go_loopg [33] r2.length (fun g v wr => ∃ j : Nat, j ≤ r2.length ∧ g = r2.length - j ∧ v = .int .i64 j ∧ HH w wr [(t, rowO 4 (bools (dfl C x r2 j)))] [])
      case atStart => exact ⟨0, Nat.zero_le _, rfl, rfl, Hs.out⟩
      case round =>
        obtain ⟨j, hj, rfl, rfl, hh⟩ := hrel
        have Hu := Lib.hid hh
        clear hh Hs
        by_cases hjl : j < r2.length
        · obtain ⟨b2, o2, rfl, _, hcR⟩ := (HB.out wr Hu.out.below).open (by omega)
          have hcx := hcR j hjl
          obtain ⟨hx0, hx1⟩ := HY.out.2 _ (nth_mem r2 j hjl)
          obtain ⟨cc, hcc⟩ : ∃ cc : Nat, nth r2 j = (cc : Int) := ⟨(nth r2 j).toNat, by omega⟩
          rw [hcc] at hcx hx1
          have hcn : cc < C := by omega
          have hcl := Hu.out.bool (k := 0) rfl cc (by rw [dfl_len]; exact hcn)
          have hfr := Hu.out.frozen (k := 0) rfl cc
          rw [dfl_get HY.out hjl hcc hcn] at hcl
          have HN := Lib.hid (Hu.out.setBool (k := 0) rfl cc (!x.testBit cc))
          rw [dfl_set HY.out hjl hcc] at HN
          clear hcR hx0 hx1 hcc
          generalize x.testBit cc = v0 at *
          go_wp2_with fail
          go_roundg (r2.length - (j + 1))
          case measure => omega
          case rel => exact ⟨j + 1, by omega, rfl, by go_num, HN.out⟩
        · obtain rfl : j = r2.length := by omega
          rw [HY2.out] at Hu
          have Hv := Lib.hid (Hu.out.addNil 3)
          go_wp2_with fail
          go_loopg [47, 12] C (fun g v s12 wr => ∃ (k : Nat) (A2 : Option Addr) (E2 : Nat), k ≤ C ∧ g = C - k ∧ v = .int .i64 k ∧ s12 = .slice A2 (rowOf k z).length E2 ∧ HH w wr [(t, rowO 4 (bools (bitsB C z)))] [⟨A2, E2, 3, ints (rowOf k z)⟩])
          case atStart => exact ⟨0, none, 0, Nat.zero_le _, rfl, rfl, rfl, Hv.out⟩
          case round =>
            obtain ⟨k, A2, E2, hk, rfl, rfl, rfl, hh⟩ := hrel
            have Hs := Lib.hid hh
            clear hh Hv Hu
            by_cases hkC : k < C
            · have hcx := Hs.out.bool (k := 0) rfl k (by rw [bitsB_len]; exact hkC)
              rw [bitsB_get hkC] at hcx
              cases hv : z.testBit k with
              | true =>
                rw [hv] at hcx
                have Hri : Hid (rowOf (k + 1) z = rowOf k z ++ [(k : Int)]) := Lib.hid (by rw [rowOf_succ, if_pos hv])
                have hll : (rowOf k z).length ≤ 65536 := Nat.le_trans (rowOf_len _ _) (by omega)
                have Hn0 : Hid ((ints (rowOf k z)).length = (rowOf k z).length) := Lib.hid (ints_length _)
                clear hv
                generalize rowOf k z = ls at *
                have Ha0 := Lib.hid (Hs.out.call ((Below.refl _ _).alloc (Nat.le_refl _) (.cells #[.int .i64 (k : Int)] 3)))
                have Hc0 : Hid ((wr.alloc (.cells #[.int .i64 (k : Int)] 3)).cell? ⟨wr.heap.size, 0, none⟩ = some (.int .i64 (k : Int))) := Lib.hid ((Row.new wr #[.int .i64 (k : Int)] 3).cell 0)
                have Hl1 : Hid (w.heap.size ≤ (wr.alloc (.cells #[.int .i64 (k : Int)] 3)).heap.size) := Lib.hid Ha0.out.below.size
                go_wp2_with (with_reducible refine wpList_append_one rfl (.tmp 54) (.tmp 56) 36 rfl w.heap.size 3 i0 (.int .i64 0) 8 Try.underlying36 hi0 hz0 hz1 hz2 rfl A2 ls.length E2 (ints ls) rfl Hn0.out (Ha0.out.sl (k := 0) rfl) _ 1 (.int .i64 (k : Int)) rfl Hc0.out rfl (by omega) (by omega) Hl1.out ?_; intro A3 e3 w2 hO2 hT2 hA2; have H2 := Lib.hid (Ha0.out.grow (k := 0) rfl hO2 hT2 hA2); clear hO2 hT2 hA2)
                have H3 : Hid (HH w w2 [(t, rowO 4 (bools (bitsB C z)))] [⟨A3, e3, 3, ints (ls ++ [(k : Int)])⟩]) := Lib.hid (by
                  have h := H2.out
                  rw [ints_snoc] at h
                  exact h)
                go_roundg (C - (k + 1))
                case measure => omega
                case rel => exact ⟨k + 1, A3, e3, by omega, rfl, by go_num, by rw [Hri.out, List.length_append]; rfl, by rw [Hri.out]; exact H3.out⟩
              | false =>
                rw [hv] at hcx
                have Hri : Hid (rowOf (k + 1) z = rowOf k z) := Lib.hid (by rw [rowOf_succ, if_neg (by rw [hv]; decide), List.append_nil])
                clear hv
                go_wp2_with fail
                go_roundg (C - (k + 1))
                case measure => omega
                case rel => exact ⟨k + 1, A2, E2, by omega, rfl, by go_num, by rw [Hri.out], by rw [Hri.out]; exact Hs.out⟩
            · obtain rfl : k = C := by omega
              go_wp2_with fail
              go_ret
              exact ⟨A2, E2, rfl, Hs.out.sl (k := 0) rfl, Hs.out.below⟩
end Go.Proofs.Ytlgiponfcmeiiaa
