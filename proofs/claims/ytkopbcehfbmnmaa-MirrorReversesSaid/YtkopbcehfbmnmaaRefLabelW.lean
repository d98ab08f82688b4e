/- The walk of the reference's Label. -/
import Derived.Test.YtkopbcehfbmnmaaPlainA
import Derived.Test.YtkopbcehfbmnmaaLabelW
namespace Go.Proofs.Ytkopbcehfbmnmaa
open Go Go.RowKit
set_option maxRecDepth 100000 in
set_option maxHeartbeats 4000000 in
theorem rlabel_any (M : List Int) (n : Nat) (aM : Option Addr) (cM : Nat) (w : World) (hn : n ≤ 1000) (hl : M.length = 4 * n) (hm : MateOk M n) (hM : IntsAt w aM M) :
    Calls Try.prog 101 #[.slice aM M.length cM] w fun e w' => ∃ a c, e = .returned (.slice a n c) ∧ Below w.heap.size w w' ∧ Own w' w.heap.size 3 a c (ints (rlabel M n)) := by
  obtain ⟨i0, hi, hz0, hz1, hz2⟩ := info_parts Try.info3
  have Hm := Lib.hid hm
  have HM := Lib.hid hM
  have HL := Lib.hid hl
  have hM1 : M.length ≤ 4 * n := by omega
  have hM2 : 4 * n ≤ M.length := by omega
  have hdiv : (M.length : Int) / 4 = (n : Int) := by omega
  clear hl hm hM
  go_enter Try.func101, Try.ntmps101
  go_wp2_with (with_reducible refine wpList_make_one rfl (.tmp 14) 22 rfl 3 i0 (.int .i64 0) 8 Try.underlying22 hi hz0 hz1 hz2 rfl .i64 _ n rfl rfl (by omega) (by omega) ?_)
  clear hdiv
  go_loopg [5] n (fun g i wr => ∃ k : Nat, k ≤ n ∧ g = n - k ∧ i = .int .i64 k ∧ Below w.heap.size w wr ∧ Row wr w.heap.size 3 (ints (nats (List.range k) ++ List.replicate (n - k) 0)))
  case atStart =>
    refine ⟨0, Nat.zero_le _, rfl, rfl, (Below.refl _ _).alloc (Nat.le_refl _) _, ?_⟩
    have := Row.new w (Array.replicate n (Value.int .i64 0)) 3
    simpa [ints, nats] using this
  case round =>
    obtain ⟨k, hk, rfl, rfl, hb, hrow⟩ := hrel
    have hlen : (nats (List.range k) ++ List.replicate (n - k) (0 : Int)).length = n := by simp [nats]; omega
    by_cases hlt : k < n
    · have hc := hrow.int k (by omega)
      have hf := hrow.frozen k
      have hnew := hrow.setInt k (k : Int)
      have Hnew : Hid (Row (wr.setCell ⟨w.heap.size, k, none⟩ (.int .i64 (k : Int))) w.heap.size 3 (ints (nats (List.range (k + 1)) ++ List.replicate (n - (k + 1)) 0))) := by
        have : (nats (List.range k) ++ List.replicate (n - k) (0 : Int)).set k (k : Int) = nats (List.range (k + 1)) ++ List.replicate (n - (k + 1)) 0 := by
          rw [List.set_append_right (h := by simp [nats]), show n - k = (n - (k+1)) + 1 from by omega, List.replicate_succ, List.range_succ, ← nats_snoc]
          simp [nats]
        rw [this] at hnew; exact hnew
      clear hnew hlen hrow
      go_wp2_with fail
      go_roundg (n - (k + 1))
      case measure => omega
      case rel => exact ⟨k + 1, by omega, rfl, by go_num, hb.setCell (Nat.le_refl _) _, Hnew⟩
    · obtain rfl : k = n := by omega
      rw [Nat.sub_self, List.replicate_zero, List.append_nil] at hrow
      clear hlen
      go_wp2_with fail
      go_loopg [6] k (fun g i wr => ∃ q : Nat, q ≤ k ∧ g = k - q ∧ i = .int .i64 q ∧ Below w.heap.size w wr ∧ Row wr w.heap.size 3 (ints (rlPass M k q)))
      case atStart => exact ⟨0, Nat.zero_le _, rfl, rfl, hb, hrow⟩
      case round =>
        clear hb hrow hlt
        obtain ⟨q, hq, rfl, rfl, hb, hrow⟩ := hrel
        by_cases hqk : q < k
        · go_wp2_with fail
          have HInv := Lib.hid (rlPass_inv Hm.out q).1
          have HNext := Lib.hid (show rlPass M k (q + 1) = rlTo M (4 * k) (rlPass M k q) from rfl)
          generalize rlPass M k q = l0 at *
          go_loopg [7] (4 * k) (fun g i wi => ∃ h : Nat, h ≤ 4 * k ∧ g = 4 * k - h ∧ i = .int .i64 h ∧ Below w.heap.size w wi ∧ Row wi w.heap.size 3 (ints (rlTo M h l0)))
          case atStart => exact ⟨0, Nat.zero_le _, rfl, rfl, hb, hrow⟩
          case round =>
            clear hb hrow
            obtain ⟨x, hh, rfl, rfl, hb, hrow⟩ := hrel
            by_cases hhk : x < 4 * k
            · obtain ⟨b, off, rfl, hbl, hcM⟩ := HM.out.open (by omega)
              have hcm := hcM x (by omega)
              rw [← hb.cell (p := ⟨b, off + x, none⟩) hbl] at hcm
              obtain ⟨hm0, hm1⟩ := Hm.out.lt x hhk
              obtain ⟨m, hm⟩ := Int.eq_ofNat_of_zero_le hm0
              have HSt := Lib.hid (show rlTo M (x + 1) l0 = rlStep M x (rlTo M x l0) from rfl)
              have hll : (rlTo M x l0).length = k := by rw [rlTo_len]; exact HInv.out.1
              have HSt2 : Hid (rlStep M x (rlTo M x l0) = ((rlTo M x l0).set (x / 4) (min (nth (rlTo M x l0) (x / 4)) (nth (rlTo M x l0) (m / 4)))).set (m / 4) (min (nth (rlTo M x l0) (x / 4)) (nth (rlTo M x l0) (m / 4)))) := Lib.hid (by unfold rlStep; rw [hm, Int.toNat_natCast])
              rw [hm] at hcm hm1
              generalize rlTo M x l0 = l at *
              have hA := hrow.int (x / 4) (by omega)
              have hB := hrow.int (m / 4) (by omega)
              have hf1 := hrow.frozen (x / 4)
              have hf2 := hrow.frozen (m / 4)
              have hcells : ∀ (N : Nat) (v : Int), ((wr.drewN N).setCell ⟨w.heap.size, x / 4, none⟩ (.int .i64 v)).cell? ⟨w.heap.size, m / 4, none⟩ = some (.int .i64 (nth (l.set (x / 4) v) (m / 4))) := fun N v => by
                have h1 : Row (wr.drewN N) w.heap.size 3 (ints l) := hrow
                exact (h1.setInt (x / 4) v).int (m / 4) (by rw [List.length_set]; omega)
              have hfroz : ∀ (N : Nat) (v : Int), ((wr.drewN N).setCell ⟨w.heap.size, x / 4, none⟩ (.int .i64 v)).frozen? ⟨w.heap.size, m / 4, none⟩ = false := fun N v => by
                have h1 : Row (wr.drewN N) w.heap.size 3 (ints l) := hrow
                exact (h1.setInt (x / 4) v).frozen (m / 4)
              have Hr2 : Hid (∀ (N : Nat) (v : Int), Row (((wr.drewN N).setCell ⟨w.heap.size, x / 4, none⟩ (.int .i64 v)).setCell ⟨w.heap.size, m / 4, none⟩ (.int .i64 v)) w.heap.size 3 (ints ((l.set (x / 4) v).set (m / 4) v))) := Lib.hid fun N v => by
                have h1 : Row (wr.drewN N) w.heap.size 3 (ints l) := hrow
                exact (h1.setInt (x / 4) v).setInt (m / 4) v
              have Hb2 : Hid (∀ (N : Nat) (v : Int), Below w.heap.size w (((wr.drewN N).setCell ⟨w.heap.size, x / 4, none⟩ (.int .i64 v)).setCell ⟨w.heap.size, m / 4, none⟩ (.int .i64 v))) := Lib.hid fun N v => by
                have h1 : Below w.heap.size w (wr.drewN N) := below_drewNN hb N
                exact (h1.setCell (Nat.le_refl _) _).setCell (Nat.le_refl _) _
              have Hll := Lib.hid hll
              have hz := hrow.lt
              have hhM : (x : Int) < (M.length : Int) := by omega
              have hq1 : (x : Int) / 4 < (k : Int) := by omega
              have hq2 : (m : Int) / 4 < (k : Int) := by omega
              clear hrow hcM hm hm0 hll
              go_wp2_with fail
              go_quiet (fail)
              go_wp2_with fail
              go_quiet (fail)
              go_wp2_with fail
              · go_roundg (4 * k - (x + 1))
                case measure => omega
                case rel => exact ⟨x + 1, by omega, rfl, by go_num, Hb2.out _ _, by rw [HSt.out, HSt2.out, Int.min_eq_right (by omega)]; exact Hr2.out _ _⟩
              · go_roundg (4 * k - (x + 1))
                case measure => omega
                case rel => exact ⟨x + 1, by omega, rfl, by go_num, Hb2.out _ _, by rw [HSt.out, HSt2.out, Int.min_eq_left (by omega)]; exact Hr2.out _ _⟩
            · obtain rfl : x = 4 * k := by omega
              rw [← HNext.out] at hrow
              go_wp2_with fail
              go_roundg (k - (q + 1))
              case measure => omega
              case rel => exact ⟨q + 1, by omega, rfl, by go_num, hb, hrow⟩
        · obtain rfl : q = k := by omega
          have h1 := hrow.own (Nat.le_refl _)
          rw [ints_length, show (rlPass M q q).length = q from (rlPass_inv Hm.out q).1.1] at h1
          have Hown := Lib.hid h1
          clear h1
          clear hrow
          go_wp2_with fail
          go_ret
          exact ⟨_, _, rfl, hb, Hown.out⟩
end Go.Proofs.Ytkopbcehfbmnmaa
