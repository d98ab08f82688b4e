/- The walk of the reference's Sparse: a table of bits as rows of places. -/
import Derived.Test.YtlgiponfcmeiiaaBmA
import Derived.Test.YtlgiponfcmeiiaaExactW
namespace Go.Proofs.Ytlgiponfcmeiiaa
open Go Go.RowKit
theorem snoc_all {α : Type} {P : Nat → α → Prop} {l : List α} {x : α} (h : ∀ m d, l[m]? = some d → P m d) (hx : P l.length x) : ∀ m d, (l ++ [x])[m]? = some d → P m d := fun m d hd => by
  rcases Nat.lt_or_ge m l.length with g | g
  · rw [List.getElem?_append_left g] at hd
    exact h m d hd
  · rw [List.getElem?_append_right g] at hd
    cases hm : m - l.length with
    | zero =>
      rw [hm] at hd
      cases hd
      rw [show m = l.length by omega]
      exact hx
    | succ m' => rw [hm] at hd; simp at hd
set_option maxRecDepth 100000 in
set_option maxHeartbeats 4000000 in
theorem sparse_any (C : Nat) (xs : List Nat) (hC : C ≤ 65536) (hR : xs.length ≤ 65536) (a : Option Addr) (c : Nat) (w : World) (hT : BTabAt w a C xs) :
    Calls Try.prog 21 #[.slice a xs.length c] w fun e w' => ∃ A E, e = .returned (.slice A xs.length E) ∧ TabAt w' A (tabN C xs) ∧ Below w.heap.size w w' := by
  obtain ⟨i0, hi0, hz0, hz1, hz2⟩ := info_parts Try.info3
  obtain ⟨j0, hj0, hy0, hy1, hy2⟩ := info_parts Try.info36
  have HT := Lib.hid hT
  clear hT
  go_enter Try.func21, Try.ntmps21
  go_wp2_with fail
  go_loopg [4, 3] xs.length (fun g v s3 wr => ∃ (i : Nat) (A : Option Addr) (E : Nat) (done : List SlO), i ≤ xs.length ∧ g = xs.length - i ∧ v = .int .i64 i ∧ s3 = .slice A i E ∧ done.length = i ∧ HH w wr [] (⟨A, E, 36, done.map slV⟩ :: done) ∧ ∀ (m : Nat) (d : SlO), done[m]? = some d → d.E = 3 ∧ d.vs = ints (rowOf C (xs.getD m 0)))
  case atStart => exact ⟨0, none, 0, [], Nat.zero_le _, rfl, rfl, rfl, rfl, (HH.start w).addNil 36, fun m x h => by simp at h⟩
  case round =>
    obtain ⟨i, A, E, done, hi, rfl, rfl, rfl, hms, hh, hb⟩ := hrel
    have Hh := Lib.hid hh
    have Hb := Lib.hid hb
    have Hms := Lib.hid hms
    clear hh hb hms
    by_cases hil : i < xs.length
    · have Hs0 := Lib.hid (Hh.out.addSl ((Below.refl _ _).alloc (Nat.le_refl _) (.cells #[] 3)) (Own.made (w := wr) (E := 3) #[] (Nat.le_refl _)))
      obtain ⟨b1, o1, a', c', rfl, _, hrow⟩ := HT.out.rowAt (getD_get hil)
      have Hrow := Lib.hid hrow
      obtain ⟨x, hx⟩ : ∃ x, x = xs.getD i 0 := ⟨_, rfl⟩
      have Hx := Lib.hid hx
      rw [← hx] at Hrow
      clear hrow hx
      go_wp2_with fail
      go_loopg [6, 5] C (fun g v s5 wr => ∃ (k : Nat) (A2 : Option Addr) (E2 : Nat), k ≤ C ∧ g = C - k ∧ v = .int .i64 k ∧ s5 = .slice A2 (rowOf k x).length E2 ∧ HH w wr [] (⟨A, E, 36, done.map slV⟩ :: done ++ [⟨A2, E2, 3, ints (rowOf k x)⟩]))
      case atStart => exact ⟨0, _, _, Nat.zero_le _, rfl, rfl, rfl, Hs0.out⟩
      case round =>
        obtain ⟨k, A2, E2, hk, rfl, rfl, rfl, hh⟩ := hrel
        have Hs := Lib.hid hh
        clear hh Hs0 Hh
        have hc1 := (Hrow.out wr Hs.out.below).1
        by_cases hkC : k < C
        · obtain ⟨b2, o2, rfl, _, hcR⟩ := (Hrow.out wr Hs.out.below).2.bits (by omega)
          have hcx := hcR k hkC
          clear hcR
          cases hv : x.testBit k with
          | true =>
            rw [hv] at hcx
            have Hri : Hid (rowOf (k + 1) x = rowOf k x ++ [(k : Int)]) := Lib.hid (by rw [rowOf_succ, if_pos hv])
            have hll : (rowOf k x).length ≤ 65536 := Nat.le_trans (rowOf_len _ _) (by omega)
            have Hn0 : Hid ((ints (rowOf k x)).length = (rowOf k x).length) := Lib.hid (ints_length _)
            clear hv
            generalize rowOf k x = ls at *
            have Ha0 := Lib.hid (Hs.out.call ((Below.refl _ _).alloc (Nat.le_refl _) (.cells #[.int .i64 (k : Int)] 3)))
            have Hc0 : Hid ((wr.alloc (.cells #[.int .i64 (k : Int)] 3)).cell? ⟨wr.heap.size, 0, none⟩ = some (.int .i64 (k : Int))) := Lib.hid ((Row.new wr #[.int .i64 (k : Int)] 3).cell 0)
            have Hl1 : Hid (w.heap.size ≤ (wr.alloc (.cells #[.int .i64 (k : Int)] 3)).heap.size) := Lib.hid Ha0.out.below.size
            go_wp2_with (with_reducible refine wpList_append_one rfl (.tmp 30) (.tmp 32) 36 rfl w.heap.size 3 i0 (.int .i64 0) 8 Try.underlying36 hi0 hz0 hz1 hz2 rfl A2 ls.length E2 (ints ls) rfl Hn0.out (Ha0.out.sl (nthO_last _ _)) _ 1 (.int .i64 (k : Int)) rfl Hc0.out rfl (by omega) (by omega) Hl1.out ?_; intro A3 e3 w2 hO2 hT2 hA2; have H2 := Lib.hid (Ha0.out.grow (nthO_last _ _) hO2 hT2 hA2); clear hO2 hT2 hA2)
            have H3 : Hid (HH w w2 [] (⟨A, E, 36, done.map slV⟩ :: done ++ [⟨A3, e3, 3, ints (ls ++ [(k : Int)])⟩])) := Lib.hid (by
              have h := H2.out
              rw [setO_last, ints_snoc] at h
              exact h)
            go_roundg (C - (k + 1))
            case measure => omega
            case rel => exact ⟨k + 1, A3, e3, by omega, rfl, by go_num, by rw [Hri.out, List.length_append]; rfl, by rw [Hri.out]; exact H3.out⟩
          | false =>
            rw [hv] at hcx
            have Hri : Hid (rowOf (k + 1) x = rowOf k x) := Lib.hid (by rw [rowOf_succ, if_neg (by rw [hv]; decide), List.append_nil])
            clear hv
            go_wp2_with fail
            go_roundg (C - (k + 1))
            case measure => omega
            case rel => exact ⟨k + 1, A2, E2, by omega, rfl, by go_num, by rw [Hri.out], by rw [Hri.out]; exact Hs.out⟩
        · obtain rfl : k = C := by omega
          have hll : (rowOf k x).length ≤ 65536 := Nat.le_trans (rowOf_len _ _) (by omega)
          have Hlr : Hid ((ints (rowOf k x)).length = (rowOf k x).length) := Lib.hid (ints_length _)
          obtain ⟨ll, hll2⟩ : ∃ ll, ll = (rowOf k x).length := ⟨_, rfl⟩
          rw [← hll2] at hll Hlr
          rw [← hll2]
          clear hll2
          have Hmn : Hid ((done.map slV).length = i) := Lib.hid (by rw [List.length_map]; exact Hms.out)
          have Ha0 := Lib.hid (Hs.out.call ((Below.refl _ _).alloc (Nat.le_refl _) (.cells #[.slice A2 ll E2] 36)))
          have Hc0 : Hid ((wr.alloc (.cells #[.slice A2 ll E2] 36)).cell? ⟨wr.heap.size, 0, none⟩ = some (.slice A2 ll E2)) := Lib.hid ((Row.new wr #[.slice A2 ll E2] 36).cell 0)
          have Hl1 : Hid (w.heap.size ≤ (wr.alloc (.cells #[.slice A2 ll E2] 36)).heap.size) := Lib.hid Ha0.out.below.size
          go_wp2_with (with_reducible refine wpList_append_one rfl (.tmp 34) (.tmp 36) 22 rfl w.heap.size 36 j0 (.slice none 0 0) 24 Try.underlying22 hj0 hy0 hy1 hy2 rfl A i E (done.map slV) rfl Hmn.out (Ha0.out.sl (k := 0) rfl) _ 1 (.slice A2 ll E2) rfl Hc0.out rfl (by omega) (by omega) Hl1.out ?_; intro A3 e3 w2 hO2 hT2 hA2; have H2 := Lib.hid (Ha0.out.grow (k := 0) rfl hO2 hT2 hA2); clear hO2 hT2 hA2)
          go_roundg (xs.length - (i + 1))
          case measure => omega
          case rel =>
            refine ⟨i + 1, A3, e3, done ++ [⟨A2, E2, 3, ints (rowOf k x)⟩], by omega, rfl, by go_num, rfl, by rw [List.length_append, Hms.out]; rfl, ?_, snoc_all Hb.out ⟨rfl, by rw [Hms.out, ← Hx.out]⟩⟩
            have h := H2.out
            have e2' : List.map slV [(⟨A2, E2, 3, ints (rowOf k x)⟩ : SlO)] = [.slice A2 ll E2] := by
              show [slV _] = _
              unfold slV
              rw [Hlr.out]
            rw [List.map_append, e2']
            exact h
    · obtain rfl : i = xs.length := by omega
      have HF : Hid (TabAt wr A (tabN C xs)) := Lib.hid ((rowsAt_of (Hh.out.forget (List.sublist_cons_self _ _)) (by rw [tabN_len]; exact Hms.out) (fun m d h => by
        have hm : m < xs.length := by rw [← Hms.out]; exact (List.getElem?_eq_some_iff.1 h).1
        rw [tabN_getD hm]
        exact Hb.out m d h)).tab (Hh.out.sl (k := 0) rfl).at)
      go_wp2_with fail
      go_ret
      exact ⟨A, E, rfl, HF.out, Hh.out.below⟩
end Go.Proofs.Ytlgiponfcmeiiaa
