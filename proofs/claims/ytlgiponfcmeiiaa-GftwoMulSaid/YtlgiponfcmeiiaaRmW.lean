/- The walk of the reference's Mul: the product of two tables of bits. -/
import Derived.Test.YtlgiponfcmeiiaaSparW
import Derived.BigRegion
namespace Go.Proofs.Ytlgiponfcmeiiaa
open Go Go.RowKit
/-- A sum of two rows under way. -/
def mxB (D y z j : Nat) : List Bool := rowF D fun l => if l < j then (y.testBit l != z.testBit l) else y.testBit l
theorem mxB_len (D y z j : Nat) : (mxB D y z j).length = D := rowF_len _ _
theorem mxB_zero (D y z : Nat) : mxB D y z 0 = bitsB D y := rowF_congr fun l _ => by simp
theorem mxB_all (D y z : Nat) : mxB D y z D = bitsB D (y ^^^ z) := rowF_congr fun l hl => by rw [if_pos hl, Nat.testBit_xor]
theorem mxB_get {D y z j : Nat} (h : j < D) : bth (mxB D y z j) j = y.testBit j := by unfold mxB; rw [rowF_bth _ h, if_neg (Nat.lt_irrefl j)]
theorem mxB_set (D y z j : Nat) : (mxB D y z j).set j (y.testBit j != z.testBit j) = mxB D y z (j + 1) := by
  unfold mxB
  rw [rowF_set]
  exact rowF_congr fun l _ => by
    by_cases e : l = j
    · subst e; rw [if_pos rfl, if_pos (by omega)]
    · rw [if_neg e]
      by_cases g : l < j
      · rw [if_pos g, if_pos (by omega)]
      · rw [if_neg g, if_neg (by omega)]
theorem bitsB_zero (D : Nat) : List.replicate D false = bitsB D 0 := by
  apply List.ext_getElem
  · simp [bitsB]
  · intro i h1 h2; simp [bitsB]
set_option maxRecDepth 100000 in
set_option maxHeartbeats 4000000 in
theorem rmul_any (C D : Nat) (xs ys : List Nat) (hC : ys.length = C) (hD : D ≤ 65536) (hR : xs.length ≤ 65536) (hCl : C ≤ 65536) (a b : Option Addr) (c d : Nat) (w : World) (hT : BTabAt w a C xs) (hU : BTabAt w b D ys) :
    Calls Try.prog 22 #[.slice a xs.length c, .slice b C d, .int .i64 (D : Int)] w fun e w' => ∃ A E, e = .returned (.slice A xs.length E) ∧ BTabAt w' A D (xs.map (mulN ys C)) ∧ Below w.heap.size w w' := by
  have hmk := run_mk1 (T := 52) (z := .bool false) (bytes := 1) Try.underlying52 Try.info4 rfl D D (Nat.le_refl _) (by omega) (by omega)
  obtain ⟨i0, hi0, hz0, hz1, hz2⟩ := info_parts Try.info52
  have HT := Lib.hid hT
  have HU := Lib.hid hU
  have HC := Lib.hid hC
  clear hT hU hC
  go_enter Try.func22, Try.ntmps22
  go_wp2_with fail
  go_loopg [8, 7] xs.length (fun g v s7 wr => ∃ (i : Nat) (A : Option Addr) (E : Nat) (bl : Kn), i ≤ xs.length ∧ g = xs.length - i ∧ v = .int .i64 i ∧ s7 = .slice A i E ∧ bl.length = i ∧ HH w wr bl [⟨A, E, 52, bl.map (bsl D)⟩] ∧ ∀ (m : Nat) (x : Nat × (Obj → Prop)), bl[m]? = some x → x.2 = rowO 4 (bools (bitsB D (mulN ys C (xs.getD m 0)))))
  case atStart => exact ⟨0, none, 0, [], Nat.zero_le _, rfl, rfl, rfl, rfl, (HH.start w).addNil 52, fun m x h => by simp at h⟩
  case round =>
    obtain ⟨i, A, E, bl, hi, rfl, rfl, rfl, hbl, hh, hb⟩ := hrel
    have Hh := Lib.hid hh
    have Hb := Lib.hid hb
    have Hbl := Lib.hid hbl
    clear hh hb hbl
    by_cases hil : i < xs.length
    · have H1 := Lib.hid (Hh.out.alloc (Array.replicate D (.bool false)) 4 rfl (vs := bools (bitsB D 0)) (by rw [replicate_bools, bitsB_zero]))
      obtain ⟨b1, o1, a', c', rfl, _, hrow⟩ := HT.out.rowAt (getD_get hil)
      have HI := Lib.hid hrow
      obtain ⟨x, hx⟩ : ∃ x, x = xs.getD i 0 := ⟨_, rfl⟩
      have Hx := Lib.hid hx
      rw [← hx] at HI
      clear hrow hx
      obtain ⟨wa, hwa⟩ : ∃ x, x = wr.alloc (.cells (Array.replicate D (.bool false)) 4) := ⟨_, rfl⟩
      rw [← hwa] at H1
      go_wp2_with fail
      rw [← hwa]
      generalize wr.heap.size = t at *
      clear hwa Hh
      go_loopg [10] C (fun g v wr => ∃ k : Nat, k ≤ C ∧ g = C - k ∧ v = .int .i64 k ∧ HH w wr (bl ++ [(t, rowO 4 (bools (bitsB D (mulN ys k x))))]) [⟨A, E, 52, bl.map (bsl D)⟩])
      case atStart => exact ⟨0, Nat.zero_le _, rfl, rfl, H1.out⟩
      case round =>
        obtain ⟨k, hk, rfl, rfl, hh⟩ := hrel
        have Hs := Lib.hid hh
        clear hh H1
        by_cases hkC : k < C
        · have h1 := (HI.out wr Hs.out.below).1
          obtain ⟨b2, o2, rfl, _, hcR⟩ := (HI.out wr Hs.out.below).2.bits (by omega)
          have hcx := hcR k hkC
          clear hcR
          cases hv : x.testBit k with
          | true =>
            rw [hv] at hcx
            have Hm : Hid (mulN ys (k + 1) x = mulN ys k x ^^^ ys.getD k 0) := Lib.hid (by unfold mulN; rw [lin, if_pos hv])
            clear hv
            generalize mulN ys k x = y at *
            obtain ⟨b3, o3, a3, c3, rfl, _, hrow⟩ := HU.out.rowAt (getD_get (xs := ys) (i := k) (by rw [HC.out]; exact hkC))
            have HJ := Lib.hid hrow
            clear hrow
            generalize ys.getD k 0 = z at *
            go_wp2_with fail
            clear h1 hcx
            go_loopg [11] D (fun g v wr => ∃ j : Nat, j ≤ D ∧ g = D - j ∧ v = .int .i64 j ∧ HH w wr (bl ++ [(t, rowO 4 (bools (mxB D y z j)))]) [⟨A, E, 52, bl.map (bsl D)⟩])
            case atStart => exact ⟨0, Nat.zero_le _, rfl, rfl, by rw [mxB_zero]; exact Hs.out⟩
            case round =>
              obtain ⟨j, hj, rfl, rfl, hh⟩ := hrel
              have Hr := Lib.hid hh
              clear hh Hs
              by_cases hjD : j < D
              · have h1 := (HJ.out wr Hr.out.below).1
                obtain ⟨b4, o4, rfl, _, hcR⟩ := (HJ.out wr Hr.out.below).2.bits (by omega)
                have hcz := hcR j hjD
                have hcl := Hr.out.bool (nthO_last _ _) j (by rw [mxB_len]; exact hjD)
                rw [mxB_get hjD] at hcl
                have hfr := Hr.out.frozen (nthO_last _ _) j
                have HN := Lib.hid (Hr.out.setBool (nthO_last _ _) j (y.testBit j != z.testBit j)).drew
                rw [setO_last, mxB_set] at HN
                clear hcR
                generalize y.testBit j = p at *
                generalize z.testBit j = q at *
                go_wp2_with fail
                go_region
                go_wp2_with fail
                go_roundg (D - (j + 1))
                case measure => omega
                case rel => exact ⟨j + 1, by omega, rfl, by go_num, HN.out⟩
              · obtain rfl : j = D := by omega
                have HF := Hr
                rw [mxB_all, ← Hm.out] at HF
                go_wp2_with fail
                go_roundg (C - (k + 1))
                case measure => omega
                case rel => exact ⟨k + 1, by omega, rfl, by go_num, HF.out⟩
          | false =>
            rw [hv] at hcx
            have Hm : Hid (mulN ys (k + 1) x = mulN ys k x) := Lib.hid (by unfold mulN; rw [lin, if_neg (by rw [hv]; decide), Nat.xor_zero])
            clear hv
            go_wp2_with fail
            go_roundg (C - (k + 1))
            case measure => omega
            case rel => exact ⟨k + 1, by omega, rfl, by go_num, by rw [Hm.out]; exact Hs.out⟩
        · obtain rfl : k = C := by omega
          have Ha0 := Lib.hid (Hs.out.call ((Below.refl _ _).alloc (Nat.le_refl _) (.cells #[.slice (some ⟨t, 0, none⟩) D D] 52)))
          have Hc0 : Hid ((wr.alloc (.cells #[.slice (some ⟨t, 0, none⟩) D D] 52)).cell? ⟨wr.heap.size, 0, none⟩ = some (.slice (some ⟨t, 0, none⟩) D D)) := Lib.hid ((Row.new wr #[.slice (some ⟨t, 0, none⟩) D D] 52).cell 0)
          have Hl1 : Hid (w.heap.size ≤ (wr.alloc (.cells #[.slice (some ⟨t, 0, none⟩) D D] 52)).heap.size) := Lib.hid Ha0.out.below.size
          have Hn0 : Hid ((bl.map (bsl D)).length = i) := Lib.hid (by rw [List.length_map]; exact Hbl.out)
          go_wp2_with (with_reducible refine wpList_append_one rfl (.tmp 53) (.tmp 55) 34 rfl w.heap.size 52 i0 (.slice none 0 0) 24 Try.underlying34 hi0 hz0 hz1 hz2 rfl A i E (bl.map (bsl D)) rfl Hn0.out (Ha0.out.sl (k := 0) rfl) _ 1 (.slice (some ⟨t, 0, none⟩) D D) rfl Hc0.out rfl (by omega) (by omega) Hl1.out ?_; intro A2 e2 w2 hO2 hT2 hA2; have H2 := Lib.hid (Ha0.out.grow (k := 0) rfl hO2 hT2 hA2); clear hO2 hT2 hA2)
          go_roundg (xs.length - (i + 1))
          case measure => omega
          case rel =>
            refine ⟨i + 1, A2, e2, bl ++ [(t, rowO 4 (bools (bitsB D (mulN ys k x))))], by omega, rfl, by go_num, rfl, by rw [List.length_append, Hbl.out]; rfl, ?_, snoc_all Hb.out (by rw [Hbl.out, ← Hx.out])⟩
            have h := H2.out
            rw [List.map_append]
            exact h
    · obtain rfl : i = xs.length := by omega
      have HF := Lib.hid (btab_of (C := D) (xs := xs.map (mulN ys C)) Hh.out (by rw [List.length_map]; exact Hbl.out) (fun m x h => by
        rw [Hb.out m x h]
        have : m < xs.length := by rw [← Hbl.out]; exact (List.getElem?_eq_some_iff.1 h).1
        simp [this]))
      go_wp2_with fail
      go_ret
      exact ⟨A, E, rfl, HF.out, Hh.out.below⟩
end Go.Proofs.Ytlgiponfcmeiiaa
