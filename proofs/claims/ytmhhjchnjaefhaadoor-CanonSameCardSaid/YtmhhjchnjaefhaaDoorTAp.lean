/- The walks of the reference's Label, Out, Face, Faces, Valid. -/
import Derived.WalkKit
import Derived.WalkSpells
import Derived.WalkLawsBesides
import Derived.Deep.AppendSrc
import Derived.Deep.LoopGhost
import Derived.Deep.QuietTactic
import Derived.Deep.RegionWith
import Derived.Deep.DeepMust
import Derived.Deep.DeepFit
import Derived.BigQuiet
import Derived.Lib.Hide
import Derived.Outline
import Derived.Test.YtmhhjchnjaefhaaDoorProg
import Derived.Test.YtmhhjchnjaefhaaDoorTAa
import Derived.Test.YtmhhjchnjaefhaaDoorTAc
import Derived.Test.YtmhhjchnjaefhaaDoorTAd
namespace Go.Proofs.YtmhhjchnjaefhaaDoor
open Go Go.RowKit
set_option maxRecDepth 100000 in
set_option maxHeartbeats 4000000 in
theorem rlabel_any (M : List Int) (n : Nat) (aM : Option Addr) (cM : Nat) (w : World) (hn : n ≤ 1000) (hl : M.length = 4 * n) (hm : MateOk M n) (hM : IntsAt w aM M) :
    Calls Tryd.prog 41 #[.slice aM M.length cM] w fun e w' => ∃ a c, e = .returned (.slice a n c) ∧ Below w.heap.size w w' ∧ Own w' w.heap.size 3 a c (ints (rlabel M n)) := by
  obtain ⟨i0, hi, hz0, hz1, hz2⟩ := info_parts Tryd.info3
  have Hm := Lib.hid hm
  have HM := Lib.hid hM
  have HL := Lib.hid hl
  have hM1 : M.length ≤ 4 * n := by omega
  have hM2 : 4 * n ≤ M.length := by omega
  have hdiv : (M.length : Int) / 4 = (n : Int) := by omega
  clear hl hm hM
  go_enter Tryd.func41, Tryd.ntmps41
  go_wp2_with (with_reducible refine wpList_make_one rfl (.tmp 14) 22 rfl 3 i0 (.int .i64 0) 8 Tryd.underlying22 hi hz0 hz1 hz2 rfl .i64 _ n rfl rfl (by omega) (by omega) ?_)
  clear hdiv
  go_loopg [5] n (fun g i wr => ∃ k : Nat, k ≤ n ∧ g = n - k ∧ i = .int .i64 k ∧ Below w.heap.size w wr ∧ Row wr w.heap.size 3 (ints (nats (List.range k) ++ List.replicate (n - k) 0)))
  case atStart =>
    refine ⟨0, Nat.zero_le _, rfl, rfl, (Below.refl _ _).alloc (Nat.le_refl _) _, ?_⟩
    have := Row.new w (Array.replicate n (Value.int .i64 0)) 3
    simpa [ints, nats] using this
  case round =>
    obtain ⟨k, hk, rfl, rfl, hb, hrow⟩ := hrel
    have hlen : (nats (List.range k) ++ List.replicate (n - k) (0 : Int)).length = n := by simp [nats]; omega
    by_cases hlt : k < n
    · have hc := hrow.int k (by omega)
      have hf := hrow.frozen k
      have hnew := hrow.setInt k (k : Int)
      have Hnew : Hid (Row (wr.setCell ⟨w.heap.size, k, none⟩ (.int .i64 (k : Int))) w.heap.size 3 (ints (nats (List.range (k + 1)) ++ List.replicate (n - (k + 1)) 0))) := by
        have : (nats (List.range k) ++ List.replicate (n - k) (0 : Int)).set k (k : Int) = nats (List.range (k + 1)) ++ List.replicate (n - (k + 1)) 0 := by
          rw [List.set_append_right (h := by simp [nats]), show n - k = (n - (k+1)) + 1 from by omega, List.replicate_succ, List.range_succ, ← nats_snoc]
          simp [nats]
        rw [this] at hnew; exact hnew
      clear hnew hlen hrow
      go_wp2_with fail
      go_roundg (n - (k + 1))
      case measure => omega
      case rel => exact ⟨k + 1, by omega, rfl, by go_num, hb.setCell (Nat.le_refl _) _, Hnew⟩
    · obtain rfl : k = n := by omega
      rw [Nat.sub_self, List.replicate_zero, List.append_nil] at hrow
      clear hlen
      go_wp2_with fail
      go_loopg [6] k (fun g i wr => ∃ q : Nat, q ≤ k ∧ g = k - q ∧ i = .int .i64 q ∧ Below w.heap.size w wr ∧ Row wr w.heap.size 3 (ints (rlPass M k q)))
      case atStart => exact ⟨0, Nat.zero_le _, rfl, rfl, hb, hrow⟩
      case round =>
        clear hb hrow hlt
        obtain ⟨q, hq, rfl, rfl, hb, hrow⟩ := hrel
        by_cases hqk : q < k
        · go_wp2_with fail
          have HInv := Lib.hid (rlPass_inv Hm.out q).1
          have HNext := Lib.hid (show rlPass M k (q + 1) = rlTo M (4 * k) (rlPass M k q) from rfl)
          generalize rlPass M k q = l0 at *
          go_loopg [7] (4 * k) (fun g i wi => ∃ h : Nat, h ≤ 4 * k ∧ g = 4 * k - h ∧ i = .int .i64 h ∧ Below w.heap.size w wi ∧ Row wi w.heap.size 3 (ints (rlTo M h l0)))
          case atStart => exact ⟨0, Nat.zero_le _, rfl, rfl, hb, hrow⟩
          case round =>
            clear hb hrow
            obtain ⟨x, hh, rfl, rfl, hb, hrow⟩ := hrel
            by_cases hhk : x < 4 * k
            · obtain ⟨b, off, rfl, hbl, hcM⟩ := HM.out.open (by omega)
              have hcm := hcM x (by omega)
              rw [← hb.cell (p := ⟨b, off + x, none⟩) hbl] at hcm
              obtain ⟨hm0, hm1⟩ := Hm.out.lt x hhk
              obtain ⟨m, hm⟩ := Int.eq_ofNat_of_zero_le hm0
              have HSt := Lib.hid (show rlTo M (x + 1) l0 = rlStep M x (rlTo M x l0) from rfl)
              have hll : (rlTo M x l0).length = k := by rw [rlTo_len]; exact HInv.out.1
              have HSt2 : Hid (rlStep M x (rlTo M x l0) = ((rlTo M x l0).set (x / 4) (min (nth (rlTo M x l0) (x / 4)) (nth (rlTo M x l0) (m / 4)))).set (m / 4) (min (nth (rlTo M x l0) (x / 4)) (nth (rlTo M x l0) (m / 4)))) := Lib.hid (by unfold rlStep; rw [hm, Int.toNat_natCast])
              rw [hm] at hcm hm1
              generalize rlTo M x l0 = l at *
              have hA := hrow.int (x / 4) (by omega)
              have hB := hrow.int (m / 4) (by omega)
              have hf1 := hrow.frozen (x / 4)
              have hf2 := hrow.frozen (m / 4)
              have hcells : ∀ (N : Nat) (v : Int), ((wr.drewN N).setCell ⟨w.heap.size, x / 4, none⟩ (.int .i64 v)).cell? ⟨w.heap.size, m / 4, none⟩ = some (.int .i64 (nth (l.set (x / 4) v) (m / 4))) := fun N v => by
                have h1 : Row (wr.drewN N) w.heap.size 3 (ints l) := hrow
                exact (h1.setInt (x / 4) v).int (m / 4) (by rw [List.length_set]; omega)
              have hfroz : ∀ (N : Nat) (v : Int), ((wr.drewN N).setCell ⟨w.heap.size, x / 4, none⟩ (.int .i64 v)).frozen? ⟨w.heap.size, m / 4, none⟩ = false := fun N v => by
                have h1 : Row (wr.drewN N) w.heap.size 3 (ints l) := hrow
                exact (h1.setInt (x / 4) v).frozen (m / 4)
              have Hr2 : Hid (∀ (N : Nat) (v : Int), Row (((wr.drewN N).setCell ⟨w.heap.size, x / 4, none⟩ (.int .i64 v)).setCell ⟨w.heap.size, m / 4, none⟩ (.int .i64 v)) w.heap.size 3 (ints ((l.set (x / 4) v).set (m / 4) v))) := Lib.hid fun N v => by
                have h1 : Row (wr.drewN N) w.heap.size 3 (ints l) := hrow
                exact (h1.setInt (x / 4) v).setInt (m / 4) v
              have Hb2 : Hid (∀ (N : Nat) (v : Int), Below w.heap.size w (((wr.drewN N).setCell ⟨w.heap.size, x / 4, none⟩ (.int .i64 v)).setCell ⟨w.heap.size, m / 4, none⟩ (.int .i64 v))) := Lib.hid fun N v => by
                have h1 : Below w.heap.size w (wr.drewN N) := below_drewNN hb N
                exact (h1.setCell (Nat.le_refl _) _).setCell (Nat.le_refl _) _
              have Hll := Lib.hid hll
              have hz := hrow.lt
              have hhM : (x : Int) < (M.length : Int) := by omega
              have hq1 : (x : Int) / 4 < (k : Int) := by omega
              have hq2 : (m : Int) / 4 < (k : Int) := by omega
              clear hrow hcM hm hm0 hll
              go_wp2_with fail
              go_quiet (fail)
              go_wp2_with fail
              go_quiet (fail)
              go_wp2_with fail
              · go_roundg (4 * k - (x + 1))
                case measure => omega
                case rel => exact ⟨x + 1, by omega, rfl, by go_num, Hb2.out _ _, by rw [HSt.out, HSt2.out, Int.min_eq_right (by omega)]; exact Hr2.out _ _⟩
              · go_roundg (4 * k - (x + 1))
                case measure => omega
                case rel => exact ⟨x + 1, by omega, rfl, by go_num, Hb2.out _ _, by rw [HSt.out, HSt2.out, Int.min_eq_left (by omega)]; exact Hr2.out _ _⟩
            · obtain rfl : x = 4 * k := by omega
              rw [← HNext.out] at hrow
              go_wp2_with fail
              go_roundg (k - (q + 1))
              case measure => omega
              case rel => exact ⟨q + 1, by omega, rfl, by go_num, hb, hrow⟩
        · obtain rfl : q = k := by omega
          have h1 := hrow.own (Nat.le_refl _)
          rw [ints_length, show (rlPass M q q).length = q from (rlPass_inv Hm.out q).1.1] at h1
          have Hown := Lib.hid h1
          clear h1
          clear hrow
          go_wp2_with fail
          go_ret
          exact ⟨_, _, rfl, hb, Hown.out⟩
set_option maxHeartbeats 1000000 in
theorem rout_any (S : List Int) (aS : Option Addr) (cS : Nat) (h : Nat) (w : World) (hh : h < 4 * S.length) (hb : S.length ≤ 1000000) (hS : IntsAt w aS S) :
    Calls Tryd.prog 40 #[.slice aS S.length cS, .int .i64 (h : Int)] w fun e w' => e = .returned (.bool (outB S h)) ∧ w = w' := by
  obtain ⟨b, off, rfl, hbl, hc⟩ := hS.open (by omega)
  have hc1 := hc (h / 4) (by omega)
  have hlt : (h : Int) / 4 < (S.length : Int) := by omega
  clear hc hS
  rcases (show h % 4 = 0 ∨ h % 4 = 1 ∨ h % 4 = 2 ∨ h % 4 = 3 by omega) with e | e | e | e
  · have hv := outB_0 S h e
    have e' : ((h : Int) % 4) = 0 := by omega
    clear e
    have t1 : (((h : Int) % 4) == 1) = false := by rw [e']; rfl
    have t2 : (((h : Int) % 4) == 2) = false := by rw [e']; rfl
    have t3 : (((h : Int) % 4) == 3) = false := by rw [e']; rfl
    clear e'
    go_enter Tryd.func40, Tryd.ntmps40
    go_wp2
    go_ret
    exact ⟨ret_bool hv.symm, rfl⟩
  · have hv := Lib.hid (outB_1 S h e)
    have e' : ((h : Int) % 4) = 1 := by omega
    clear e
    have t1 : (((h : Int) % 4) == 1) = true := by rw [e']; rfl
    have t2 : (((h : Int) % 4) == 2) = false := by rw [e']; rfl
    clear e'
    go_enter Tryd.func40, Tryd.ntmps40
    go_wp2
    go_ret
    exact ⟨ret_bool hv.out.symm, rfl⟩
  · have hv := outB_2 S h e
    have e' : ((h : Int) % 4) = 2 := by omega
    clear e
    have t2 : (((h : Int) % 4) == 2) = true := by rw [e']; rfl
    clear e'
    go_enter Tryd.func40, Tryd.ntmps40
    go_wp2
    go_ret
    exact ⟨ret_bool hv.symm, rfl⟩
  · have hv := Lib.hid (outB_3 S h e)
    have e' : ((h : Int) % 4) = 3 := by omega
    clear e
    have t1 : (((h : Int) % 4) == 1) = false := by rw [e']; rfl
    have t2 : (((h : Int) % 4) == 2) = false := by rw [e']; rfl
    have t3 : (((h : Int) % 4) == 3) = true := by rw [e']; rfl
    clear e'
    go_enter Tryd.func40, Tryd.ntmps40
    go_wp2
    go_ret
    exact ⟨ret_bool hv.out.symm, rfl⟩
set_option maxRecDepth 100000 in
set_option maxHeartbeats 2000000 in
theorem face_any (M : List Int) (n : Nat) (aM : Option Addr) (cM : Nat) (w : World) (h p : Nat) (hn : n ≤ 1000) (hl : M.length = 4 * n) (hm : MateOk M n) (hh : h < 4 * n) (hM : IntsAt w aM M) (hp : IsPer (fb M (-1)) h p) (hpn : p ≤ 4 * n) :
    Calls Tryd.prog 65 #[.slice aM M.length cM, .int .i64 (h : Int)] w fun e w' => ∃ a c, e = .returned (.slice a p c) ∧ Below w.heap.size w w' ∧ Own w' w.heap.size 3 a c (ints (nats (orb (fb M (-1)) h p))) := by
  obtain ⟨i0, hi, hz0, hz1, hz2⟩ := info_parts Tryd.info3
  obtain ⟨b, off, rfl, hbl, hcM⟩ := hM.open (by omega)
  have Hinj := Lib.hid (hm.injB (-1) (by omega))
  have HcM : Hid (∀ W, Below w.heap.size w W → ∀ x, x < 4 * n → ∃ m : Nat, nth M x = (m : Int) ∧ m < 4 * n ∧ W.cell? ⟨b, off + x, none⟩ = some (.int .i64 (m : Int))) := Lib.hid (by
    intro W hW x hx
    have h1 := hm.lt x hx
    obtain ⟨m, hm'⟩ := Int.eq_ofNat_of_zero_le h1.1
    refine ⟨m, hm', by omega, ?_⟩
    rw [hW.cell (p := ⟨b, off + x, none⟩) hbl, hcM x (by omega), hm'])
  have Hp := Lib.hid hp
  have hM1 : M.length ≤ 4 * n := by omega
  have hM2 : 4 * n ≤ M.length := by omega
  obtain ⟨m0, Hm0, hm0, hc0⟩ := HcM.out (w.alloc (.cells #[.int .i64 (h : Int)] 3)) ((Below.refl _ _).alloc (Nat.le_refl _) _) h hh
  have HN : Hid (iter (fb M (-1)) 1 h = tn m0 (-1)) := Lib.hid (by show fb M (-1) h = _; unfold fb; rw [Hm0, Int.toNat_natCast])
  have HMz := Lib.hid Hm0
  clear hl hm hM hp hcM Hm0
  go_enter Tryd.func65, Tryd.ntmps65
  go_wp2_with fail
  refine (rturn_any m0 (-1) _ (by omega) (by omega) (by omega)).mono ?_
  rintro e w1 ⟨rfl, rfl⟩
  go_wp2_with fail
  go_loopg [6, 5] (p - 1) (fun g hv lv wr => ∃ (k : Nat) (A : Option Addr) (c : Nat), 0 < k ∧ k ≤ p ∧ g = p - k ∧ hv = .int .i64 ((iter (fb M (-1)) k h : Nat) : Int) ∧ lv = .slice A k c ∧ Own wr w.heap.size 3 A c (ints (nats (orb (fb M (-1)) h k))) ∧ Below w.heap.size w wr)
  case atStart =>
    refine ⟨1, some ⟨w.heap.size, 0, none⟩, 1, by omega, Hp.out.1, rfl, by rw [HN.out], rfl, ?_, (Below.refl _ _).alloc (Nat.le_refl _) _⟩
    have h1 := Own.made (w := w) (B := w.heap.size) (E := 3) #[Value.int .i64 (h : Int)] (Nat.le_refl _)
    simpa [ints, nats, orb, iter] using h1
  case round =>
    clear hc0 HN HMz
    obtain ⟨k, A, c, hk0, hkp, rfl, rfl, rfl, hown, hb⟩ := hrel
    have hsz := hb.size
    by_cases hlt : k < p
    · have hne := Hp.out.2.2 k hk0 hlt
      have hx := iter_lt (fb M (-1)) (4 * n) Hinj.out.lt k h hh
      have ht : (((iter (fb M (-1)) k h : Nat) : Int) != (h : Int)) = true := by simp; omega
      have Hown := Lib.hid hown; clear hown
      have Hne := Lib.hid hne; clear hne
      have Hlen : Hid ((ints (nats (orb (fb M (-1)) h k))).length = k) := Lib.hid (by rw [ints_length, nats_length, orb_length])
      have Hsn : Hid (ints (nats (orb (fb M (-1)) h k)) ++ [.int .i64 ((iter (fb M (-1)) k h : Nat) : Int)] = ints (nats (orb (fb M (-1)) h (k + 1)))) := Lib.hid (by rw [ints_snoc, nats_snoc, orb_succ])
      have Hcell : Hid ((wr.alloc (.cells #[.int .i64 ((iter (fb M (-1)) k h : Nat) : Int)] 3)).cell? ⟨wr.heap.size, 0, none⟩ = some (.int .i64 ((iter (fb M (-1)) k h : Nat) : Int))) := Lib.hid (by simp)
      have Hit := Lib.hid (show iter (fb M (-1)) (k + 1) h = tn (nth M (iter (fb M (-1)) k h)).toNat (-1) from rfl)
      generalize iter (fb M (-1)) k h = x at *
      have hdec : decide (k ≤ M.length) = true := decide_eq_true (by omega)
      go_wp2_with (with_reducible refine wpList_append_one rfl (.tmp 29) (.tmp 31) 22 rfl w.heap.size 3 i0 (.int .i64 0) 8 Tryd.underlying22 hi hz0 hz1 hz2 rfl A k c _ rfl Hlen.out (Hown.out.alloc _) _ 1 (.int .i64 (x : Int)) rfl Hcell.out rfl (by omega) (by omega) (by simp; omega) ?_; intro A2 c2 w2 hO2 hT2 hA2; have hb2 : Below w.heap.size w w2 := (hb.alloc hsz _).trans (hT2.below (by simp; omega) (fun y hy => (Hown.out.lt hy).1)); obtain ⟨m, HM, hmm, hcm⟩ := HcM.out w2 hb2 x hx; have HMm := Lib.hid HM; clear HM)
      refine (rturn_any m (-1) _ (by omega) (by omega) (by omega)).mono ?_
      rintro e w3 ⟨rfl, rfl⟩
      go_wp2_with fail
      go_roundg (p - (k + 1))
      case measure => omega
      case rel =>
        refine ⟨k + 1, A2, c2, by omega, by omega, rfl, by rw [Hit.out, HMm.out, Int.toNat_natCast], rfl, ?_, hb2⟩
        rw [← Hsn.out]
        exact hO2
    · obtain rfl : k = p := by omega
      have he := Hp.out.2.1
      have ht : (((iter (fb M (-1)) k h : Nat) : Int) != (h : Int)) = false := by rw [he]; simp
      have Hown := Lib.hid hown; clear hown he
      go_wp2_with fail
      go_ret
      exact ⟨A, c, rfl, hb, Hown.out⟩
theorem leastB_to (f per : Nat → Nat) (h : Nat) : leastB f per h = leastTo f h (per h) := rfl
set_option maxRecDepth 100000 in
set_option maxHeartbeats 4000000 in
theorem faces_any (M : List Int) (n : Nat) (aM : Option Addr) (cM : Nat) (w : World) (hn : n ≤ 1000) (hl : M.length = 4 * n) (hm : MateOk M n) (hM : IntsAt w aM M) :
    Calls Tryd.prog 42 #[.slice aM M.length cM] w fun e w' => ∃ a c, e = .returned (.slice a (clTo (fb M (-1)) (perOf (fb M (-1)) (4 * n)) (fun _ => true) (4 * n)).length c) ∧ Below w.heap.size w w' ∧ OwnRows w' w.heap.size a c ((clTo (fb M (-1)) (perOf (fb M (-1)) (4 * n)) (fun _ => true) (4 * n)).map nats) := by
  obtain ⟨i1, hi1, hy0, hy1, hy2⟩ := info_parts Tryd.info22
  have Hinj := Lib.hid (hm.injB (-1) (by omega))
  have Hm := Lib.hid hm
  have HL := Lib.hid hl
  have HM := Lib.hid hM
  have hM1 : M.length ≤ 4 * n := by omega
  have hM2 : 4 * n ≤ M.length := by omega
  clear hl hm hM
  go_enter Tryd.func42, Tryd.ntmps42
  go_wp2_with fail
  go_loopg [4, 3] (4 * n) (fun g i av wr => ∃ (k : Nat) (A : Option Addr) (c : Nat), k ≤ 4 * n ∧ g = 4 * n - k ∧ i = .int .i64 k ∧ av = .slice A (clTo (fb M (-1)) (perOf (fb M (-1)) (4 * n)) (fun _ => true) k).length c ∧ OwnRows wr w.heap.size A c ((clTo (fb M (-1)) (perOf (fb M (-1)) (4 * n)) (fun _ => true) k).map nats) ∧ Below w.heap.size w wr)
  case atStart => exact ⟨0, none, 0, Nat.zero_le _, rfl, rfl, by simp [clTo], by simpa [clTo] using OwnRows.nil w w.heap.size, Below.refl _ _⟩
  case round =>
    obtain ⟨k, A, c, hk, rfl, rfl, rfl, hown, hb⟩ := hrel
    have hsz := hb.size
    have hcl := clTo_len (fb M (-1)) (perOf (fb M (-1)) (4 * n)) (fun _ => true) k
    have Hsucc := Lib.hid (clTo_succ (fb M (-1)) (perOf (fb M (-1)) (4 * n)) (fun _ => true) k)
    generalize hst : clTo (fb M (-1)) (perOf (fb M (-1)) (4 * n)) (fun _ => true) k = st at *
    have Hst := Lib.hid hst; clear hst
    have Hown := Lib.hid hown; clear hown
    by_cases hlt : k < 4 * n
    · have hpp := perOf_le (fb M (-1)) (4 * n) k (by omega)
      have Hper := Lib.hid (perOf_spec Hinj.out k hlt)
      have Hlst := Lib.hid (leastB_to (fb M (-1)) (perOf (fb M (-1)) (4 * n)) k)
      generalize perOf (fb M (-1)) (4 * n) k = p at *
      go_wp2_with fail
      refine (face_any M n aM cM wr k p hn HL.out Hm.out hlt (HM.out.later hb) Hper.out hpp).mono ?_
      rintro e w2 ⟨A2, c2, rfl, hb2, hO2⟩
      have hb2' := below_step hb hb2
      have hsz2 := hb2'.size
      have Hown2 := Lib.hid (Hown.out.later hb2 (Nat.le_refl _))
      have HO2 := Lib.hid (hO2.mono hsz)
      clear hO2 Hown hb2 hb
      go_wp2_with fail
      go_loopg [7, 6] p (fun g i lv wi => ∃ j : Nat, j ≤ p ∧ g = p - j ∧ i = .int .i64 j ∧ lv = .bool (leastTo (fb M (-1)) k j) ∧ wi = w2)
      case atStart => exact ⟨0, Nat.zero_le _, rfl, rfl, rfl, rfl⟩
      case round =>
        obtain ⟨j, hj, rfl, rfl, rfl, rfl⟩ := hrel
        have hlen : (orb (fb M (-1)) k p).length = p := orb_length _ _ _
        by_cases hjl : j < p
        · obtain ⟨b, off, rfl, hB, hbl, hcell, _⟩ := HO2.out.open (by rw [ints_length, nats_length, hlen]; omega)
          have hcj := hcell j _ (ints_get _ _ (by rw [nats_length, hlen]; exact hjl))
          rw [nth_nats _ _ (by rw [hlen]; exact hjl), orb_getD _ _ _ _ hjl] at hcj
          have Hls := Lib.hid (leastTo_succ (fb M (-1)) k j)
          generalize iter (fb M (-1)) j k = x at *
          clear hcell hlen
          by_cases hls : leastTo (fb M (-1)) k j = true
          · have HLs : Hid (leastTo (fb M (-1)) k (j + 1) = decide (k ≤ x)) := Lib.hid (by rw [Hls.out, hls, Bool.true_and])
            rw [hls]
            clear hls
            go_wp2_with fail
            go_roundg (p - (j + 1))
            case measure => omega
            case rel => exact ⟨j + 1, by omega, rfl, by go_num, by rw [HLs.out], rfl⟩
          · have hls2 : leastTo (fb M (-1)) k j = false := by simpa using hls
            have HLs : Hid (leastTo (fb M (-1)) k (j + 1) = false) := Lib.hid (by rw [Hls.out, hls2, Bool.false_and])
            rw [hls2]
            clear hls hls2
            go_wp2_with fail
            go_roundg (p - (j + 1))
            case measure => omega
            case rel => exact ⟨j + 1, by omega, rfl, by go_num, by rw [HLs.out], rfl⟩
        · obtain rfl : j = p := by omega
          clear hlen
          rw [← Hlst.out]
          by_cases hls : leastB (fb M (-1)) (perOf (fb M (-1)) (4 * n)) k = true
          · have HE : Hid (clTo (fb M (-1)) (perOf (fb M (-1)) (4 * n)) (fun _ => true) (k + 1) = st ++ [orb (fb M (-1)) k j]) := Lib.hid (by rw [Hsucc.out, if_pos (by simpa using hls)])
            rw [hls]
            clear hls
            obtain ⟨vs, hvs, hro⟩ := Hown2.out
            have hvl := hro.1
            simp only [List.length_map] at hvl
            have hs3 : (nats (orb (fb M (-1)) k j)).length = j := by rw [nats_length, orb_length]
            have hsn := hro.snoc HO2.out
            rw [hs3] at hsn
            have Hvs := Lib.hid hvs
            have Hsn := Lib.hid hsn
            clear hsn hro hvs hs3
            go_wp2_with (with_reducible refine wpList_append_one rfl (.tmp 33) (.tmp 35) 41 rfl w.heap.size 22 i1 (.slice none 0 0) 24 Tryd.underlying41 hi1 hy0 hy1 hy2 rfl A _ c vs rfl hvl (Hvs.out.alloc _) _ 1 (.slice A2 j c2) rfl (by simp) rfl (by omega) (by omega) (by simp; omega) ?_; intro A3 c3 w3 hO3 hT3 hA3)
            have hb3 : Below w.heap.size w w3 := (hb2'.alloc (by omega) _).trans (hT3.below (by simp; omega) (fun y hy => (Hvs.out.lt hy).1))
            go_roundg (4 * n - (k + 1))
            case measure => omega
            case rel =>
              refine ⟨k + 1, A3, c3, by omega, rfl, by go_num, by rw [HE.out]; simp, ?_, hb3⟩
              rw [HE.out, List.map_append]
              exact ⟨_, hO3, (Hsn.out.alloc _).turned (Hvs.out.alloc _) (by decide) hT3⟩
          · have hls2 : leastB (fb M (-1)) (perOf (fb M (-1)) (4 * n)) k = false := by simpa using hls
            have HE : Hid (clTo (fb M (-1)) (perOf (fb M (-1)) (4 * n)) (fun _ => true) (k + 1) = st) := Lib.hid (by rw [Hsucc.out, if_neg (by simpa using hls)])
            rw [hls2]
            clear hls hls2
            go_wp2_with fail
            go_roundg (4 * n - (k + 1))
            case measure => omega
            case rel => exact ⟨k + 1, A, c, by omega, rfl, by go_num, by rw [HE.out], by rw [HE.out]; exact Hown2.out, hb2'⟩
    · obtain rfl : k = 4 * n := by omega
      go_wp2_with fail
      go_ret
      rw [Hst.out]
      exact ⟨A, c, rfl, hb, Hown.out⟩
theorem rvTo_succ (lab : List Int) (c k : Nat) : rvTo lab c (k + 1) = if nth lab k = (c : Int) then rvTo lab c k + 1 else rvTo lab c k := by
  unfold rvTo
  rw [List.range_succ, List.countP_append]
  by_cases h : nth lab k = (c : Int) <;> simp [h]
theorem rvTo_le (lab : List Int) (c k : Nat) : rvTo lab c k ≤ k := by
  unfold rvTo
  have := List.countP_le_length (p := fun d => decide (nth lab d = (c : Int))) (l := List.range k)
  simpa using this
theorem rfTo_le (lab : List Int) (c : Nat) (ls : List (List Nat)) : rfTo lab c ls ≤ ls.length := List.countP_le_length
theorem rfTo_take (lab : List Int) (c : Nat) (ls : List (List Nat)) (k : Nat) (l : List Nat) (hk : ls[k]? = some l) : rfTo lab c (ls.take (k + 1)) = if nth lab (l.headD 0 / 4) = (c : Int) then rfTo lab c (ls.take k) + 1 else rfTo lab c (ls.take k) := by
  unfold rfTo
  rw [List.take_add_one, List.countP_append, hk]
  by_cases h : nth lab (l.headD 0 / 4) = (c : Int)
  · rw [if_pos h, Option.toList_some, List.countP_singleton, decide_eq_true h]; rfl
  · rw [if_neg h, Option.toList_some, List.countP_singleton, decide_eq_false h]; rfl
theorem clTo_head {f per : Nat → Nat} {wb : Nat → Bool} {N : Nat} (hp : ∀ x, x < N → 0 < per x) {i : Nat} {l : List Nat} (h : (clTo f per wb N)[i]? = some l) : 0 < l.length ∧ l.headD 0 < N ∧ nth (nats l) 0 = ((l.headD 0 : Nat) : Int) := by
  have hm := List.mem_of_getElem? h
  unfold clTo at hm
  simp only [List.mem_map, List.mem_filter, List.mem_range] at hm
  obtain ⟨x, ⟨hx, _⟩, rfl⟩ := hm
  have hpx := hp x hx
  have hl : 0 < (orb f x (per x)).length := by rw [orb_length]; exact hpx
  have hh : (orb f x (per x)).headD 0 = x := by
    obtain ⟨p, hp'⟩ : ∃ p, per x = p + 1 := ⟨per x - 1, by omega⟩
    rw [hp']; unfold orb; rw [List.range_succ_eq_map]; rfl
  refine ⟨hl, by rw [hh]; exact hx, ?_⟩
  rw [hh, nth_nats _ _ hl, orb_getD _ _ _ _ hpx]; rfl
set_option maxRecDepth 100000 in
set_option maxHeartbeats 8000000 in
theorem rvalid_any (S M : List Int) (L : Int) (aS aM : Option Addr) (cS cM : Nat) (w : World) (hSl : S.length ≤ 1000000000) (hMl : M.length ≤ 1000000000) (hS : IntsAt w aS S) (hM : IntsAt w aM M) :
    Calls Tryd.prog 13 #[.agg #[.slice aS S.length cS, .slice aM M.length cM, .int .i64 L]] w fun e w' => e = .returned (.bool (vldB S M L)) ∧ Below w.heap.size w w' := by
  have hB : ∀ o, Below w.heap.size w (w.alloc o) := fun o => (Below.refl _ _).alloc (Nat.le_refl _) o
  by_cases h1 : 64 < S.length
  · have hv : vldB S M L = false := vldB_no fun h => by have := h.few; omega
    have d1 : decide ((64 : Int) < (S.length : Int)) = true := decide_eq_true (by omega)
    rw [hv]
    clear hv h1 hS hM
    go_enter Tryd.func13, Tryd.ntmps13
    go_wp2_with fail
    go_ret
    exact ⟨rfl, hB _⟩
  have d1 : decide ((64 : Int) < (S.length : Int)) = false := decide_eq_false (by omega)
  by_cases h2 : M.length ≠ 4 * S.length
  · have hv : vldB S M L = false := vldB_no fun h => h2 h.len
    have d2 : ((M.length : Int) != 4 * (S.length : Int)) = true := by rw [bne_iff_ne]; omega
    rw [hv]
    clear hv h1 h2 hS hM
    go_enter Tryd.func13, Tryd.ntmps13
    go_wp2_with fail
    go_ret
    exact ⟨rfl, hB _⟩
  have h2' : M.length = 4 * S.length := by omega
  have d2 : ((M.length : Int) != 4 * (S.length : Int)) = false := by rw [h2']; simp
  by_cases h3 : L < 0
  · have hv : vldB S M L = false := vldB_no fun h => by have := h.lo; omega
    have d3 : decide (L < 0) = true := decide_eq_true h3
    rw [hv]
    clear hv h1 h2 h2' h3 hS hM
    go_enter Tryd.func13, Tryd.ntmps13
    go_wp2_with fail
    go_ret
    exact ⟨rfl, hB _⟩
  have d3 : decide (L < 0) = false := decide_eq_false h3
  by_cases h4 : 64 < L
  · have hv : vldB S M L = false := vldB_no fun h => by have := h.hi; omega
    have d4 : decide ((64 : Int) < L) = true := decide_eq_true h4
    rw [hv]
    clear hv h1 h2 h2' h3 h4 hS hM
    go_enter Tryd.func13, Tryd.ntmps13
    go_wp2_with fail
    go_ret
    exact ⟨rfl, hB _⟩
  have d4 : decide ((64 : Int) < L) = false := decide_eq_false h4
  have Hno := Lib.hid (fun (h : ¬ Shape S M L) => vldB_no h)
  have H2 := Lib.hid h2'
  have HS := Lib.hid hS
  have HM := Lib.hid hM
  have hn : S.length ≤ 64 := by omega
  have hl3 : 0 ≤ L := by omega
  have hl4 : L ≤ 64 := by omega
  clear h1 h2 h2' hS hM h3 h4
  go_enter Tryd.func13, Tryd.ntmps13
  go_wp2_with fail
  go_loopg [4] S.length (fun g i wr => ∃ k : Nat, k ≤ S.length ∧ g = S.length - k ∧ i = .int .i64 k ∧ wr = w.alloc (.cells #[.slice aS S.length cS, .slice aM M.length cM, .int .i64 L] 24) ∧ signsTo S k)
  case atStart => exact ⟨0, Nat.zero_le _, rfl, rfl, rfl, fun c hc => by omega⟩
  case round =>
    obtain ⟨k, hk, rfl, rfl, rfl, hsg⟩ := hrel
    have Hsg := Lib.hid hsg; clear hsg
    by_cases hlt : k < S.length
    · obtain ⟨b, off, rfl, hbl, hc⟩ := HS.out.open (by omega)
      have hck := hc k hlt
      rw [← (hB (.cells #[.slice (some ⟨b, off, none⟩) S.length cS, .slice aM M.length cM, .int .i64 L] 24)).cell (p := ⟨b, off + k, none⟩) hbl] at hck
      clear hc
      by_cases h1 : nth S k = 1
      · have t1 : (nth S k != 1) = false := by rw [h1]; rfl
        have H1 := Lib.hid h1; clear h1
        go_wp2_with fail
        go_roundg (S.length - (k + 1))
        case measure => omega
        case rel =>
          refine ⟨k + 1, by omega, rfl, by go_num, rfl, fun c hc => ?_⟩
          rcases Nat.lt_or_ge c k with h | h
          · exact Hsg.out c h
          · obtain rfl : c = k := by omega
            exact .inl H1.out
      · have t1 : (nth S k != 1) = true := by simpa using h1
        by_cases h2 : nth S k = -1
        · have t2 : (nth S k != -1) = false := by rw [h2]; rfl
          have H1 := Lib.hid h2; clear h1 h2
          go_wp2_with fail
          go_roundg (S.length - (k + 1))
          case measure => omega
          case rel =>
            refine ⟨k + 1, by omega, rfl, by go_num, rfl, fun c hc => ?_⟩
            rcases Nat.lt_or_ge c k with h | h
            · exact Hsg.out c h
            · obtain rfl : c = k := by omega
              exact .inr H1.out
        · have t2 : (nth S k != -1) = true := by simpa using h2
          have Hv : Hid (vldB S M L = false) := Lib.hid (Hno.out fun h => (h.sign k hlt).elim h1 h2)
          clear h1 h2
          go_wp2_with fail
          go_ret
          rw [Hv.out]
          exact ⟨rfl, hB _⟩
    · obtain rfl : k = S.length := by omega
      go_wp2_with fail
      have Hbox := Lib.hid (Row.new w #[.slice aS S.length cS, .slice aM M.length cM, .int .i64 L] 24)
      have hM1 : M.length ≤ 4 * S.length := by rw [H2.out]; omega
      have hM2 : 4 * S.length ≤ M.length := by rw [H2.out]; omega
      go_loopg [5] (4 * S.length) (fun g i wr => ∃ h : Nat, h ≤ 4 * S.length ∧ g = 4 * S.length - h ∧ i = .int .i64 h ∧ Below w.heap.size w wr ∧ Row wr w.heap.size 24 [.slice aS S.length cS, .slice aM M.length cM, .int .i64 L] ∧ matesTo S M S.length h)
      case atStart => exact ⟨0, Nat.zero_le _, rfl, rfl, hB _, Hbox.out, fun c hc => by omega⟩
      case round =>
        clear Hbox
        obtain ⟨h, hh, rfl, rfl, hb, hbox, hmt⟩ := hrel
        have Hmt := Lib.hid hmt; clear hmt
        have hz := hbox.lt
        have hc0 := hbox.cell 0
        have hc1 := hbox.cell 1
        have hc2 := hbox.cell 2
        simp only [List.getElem?_cons_succ, List.getElem?_cons_zero] at hc0 hc1 hc2
        have Hbox := Lib.hid hbox; clear hbox
        have Hbd : Hid (∀ N, Below w.heap.size w (wr.drewN N)) := Lib.hid fun N => below_drewNN hb N
        by_cases hlt : h < 4 * S.length
        · obtain ⟨b, off, rfl, hbl, hc⟩ := HM.out.open (by rw [H2.out]; omega)
          have hch := hc h (by rw [H2.out]; exact hlt)
          rw [← hb.cell (p := ⟨b, off + h, none⟩) hbl] at hch
          have hno : ¬ mateOk S M S.length h → vldB S M L = false := fun hn => Hno.out fun hs => hn (hs.mate h hlt)
          have Hno2 := Lib.hid hno; clear hno
          by_cases h1 : nth M h < 0
          · have t1 : decide (nth M h < 0) = true := decide_eq_true h1
            have Hv : Hid (vldB S M L = false) := Lib.hid (Hno2.out fun hs => by have := hs.1; omega)
            clear hc h1
            go_wp2_with fail
            go_quiet (fail)
            go_wp2_with fail
            go_ret
            rw [Hv.out]
            exact ⟨rfl, Hbd.out _⟩
          have t1 : decide (nth M h < 0) = false := decide_eq_false h1
          by_cases h2 : 4 * (S.length : Int) ≤ nth M h
          · have t2 : decide (4 * (S.length : Int) ≤ nth M h) = true := decide_eq_true h2
            have Hv : Hid (vldB S M L = false) := Lib.hid (Hno2.out fun hs => by have := hs.2.1; omega)
            clear hc h1 h2
            go_wp2_with fail
            go_quiet (fail)
            go_wp2_with fail
            go_ret
            rw [Hv.out]
            exact ⟨rfl, Hbd.out _⟩
          have t2 : decide (4 * (S.length : Int) ≤ nth M h) = false := decide_eq_false h2
          by_cases h3 : nth M h = (h : Int)
          · have t3 : (nth M h == (h : Int)) = true := by simpa using h3
            have Hv : Hid (vldB S M L = false) := Lib.hid (Hno2.out fun hs => hs.2.2.1 h3)
            clear hc h1 h2 h3
            go_wp2_with fail
            go_quiet (fail)
            go_wp2_with fail
            go_ret
            rw [Hv.out]
            exact ⟨rfl, Hbd.out _⟩
          have t3 : (nth M h == (h : Int)) = false := by simpa using h3
          obtain ⟨m, hm⟩ := Int.eq_ofNat_of_zero_le (show 0 ≤ nth M h by omega)
          have hm1 : m < 4 * S.length := by omega
          have hcm := hc m (by rw [H2.out]; exact hm1)
          rw [← hb.cell (p := ⟨b, off + m, none⟩) hbl] at hcm
          have Hok : Hid (mateOk S M S.length h ↔ nth M m = (h : Int) ∧ outB S h ≠ outB S m) := Lib.hid (by
            unfold mateOk
            rw [hm, Int.toNat_natCast]
            exact ⟨fun hs => hs.2.2.2, fun hs => ⟨by omega, by omega, by rw [← hm]; exact h3, hs⟩⟩)
          rw [hm] at hch t1 t2 t3
          clear hc h1 h2 h3 hm
          have hmM : m < M.length := by omega
          by_cases h4 : nth M m ≠ (h : Int)
          · have t4 : (nth M m != (h : Int)) = true := by simpa using h4
            have Hv : Hid (vldB S M L = false) := Lib.hid (Hno2.out fun hs => h4 (Hok.out.1 hs).1)
            clear h4
            go_wp2_with fail
            go_quiet (fail)
            go_wp2_with fail
            go_ret
            rw [Hv.out]
            exact ⟨rfl, Hbd.out _⟩
          have h4' : nth M m = (h : Int) := by omega
          have t4 : (nth M m != (h : Int)) = false := by simpa using h4'
          have H4 := Lib.hid h4'; clear h4 h4'
          have HcO : Hid (∀ (x N : Nat), x < 4 * S.length → Calls Tryd.prog 40 #[.slice aS S.length cS, .int .i64 (x : Int)] (wr.drewN N) (fun e w' => e = .returned (.bool (outB S x)) ∧ w' = wr.drewN N)) :=
            Lib.hid fun x N hx => (rout_any S aS cS x (wr.drewN N) hx (by omega) (HS.out.later (Hbd.out N))).mono fun e w' ⟨he, hb'⟩ => ⟨he, hb'.symm⟩
          by_cases h5 : outB S h = outB S m
          · have Hv : Hid (vldB S M L = false) := Lib.hid (Hno2.out fun hs => (Hok.out.1 hs).2 h5)
            have t5 : (outB S h == outB S m) = true := by simpa using h5
            clear h5
            go_wp2_with fail
            go_quiet ((go_at_call 40; first | with_reducible exact Calls.quiet_of_same (HcO.out h _ hlt) | with_reducible exact Calls.quiet_of_same (HcO.out m _ hm1)))
            go_wp2_with fail
            go_ret
            rw [Hv.out]
            exact ⟨rfl, Hbd.out _⟩
          · have Hv : Hid (mateOk S M S.length h) := Lib.hid (Hok.out.2 ⟨H4.out, h5⟩)
            have t5 : (outB S h == outB S m) = false := by simpa using h5
            clear h5
            go_wp2_with fail
            go_quiet ((go_at_call 40; first | with_reducible exact Calls.quiet_of_same (HcO.out h _ hlt) | with_reducible exact Calls.quiet_of_same (HcO.out m _ hm1)))
            go_wp2_with fail
            go_roundg (4 * S.length - (h + 1))
            case measure => omega
            case rel =>
              refine ⟨h + 1, by omega, rfl, by go_num, Hbd.out _, Hbox.out, fun c hc => ?_⟩
              rcases Nat.lt_or_ge c h with hc1 | hc1
              · exact Hmt.out c hc1
              · obtain rfl : c = h := by omega
                exact Hv.out
        · obtain rfl : h = 4 * S.length := by omega
          have hshape : Shape S M L := ⟨by omega, H2.out, hl3, hl4, Hsg.out, Hmt.out⟩
          have Hmok := Lib.hid hshape.mates
          have Hv : Hid (vldB S M L = true ↔ ∀ c, c < S.length → rsOk (rlabel M S.length) S.length (clTo (fb M (-1)) (perOf (fb M (-1)) (4 * S.length)) (fun _ => true) (4 * S.length)) c) := Lib.hid (by
            rw [rsph_iff hshape.mates, vldB_iff]; exact ⟨fun h => h.2, fun h => ⟨hshape, h⟩⟩)
          have Hheads := Lib.hid (fun (i : Nat) (l : List Nat) => clTo_head (f := fb M (-1)) (per := perOf (fb M (-1)) (4 * S.length)) (wb := fun _ => true) (N := 4 * S.length) (i := i) (l := l) (fun x hx => (perOf_spec (hshape.mates.injB (-1) (by omega)) x hx).1))
          have hfl := clTo_len (fb M (-1)) (perOf (fb M (-1)) (4 * S.length)) (fun _ => true) (4 * S.length)
          have Hlab : Hid (∀ c, c < S.length → ∃ d : Nat, nth (rlabel M S.length) c = (d : Int) ∧ d < S.length) := Lib.hid fun c hc => by
            obtain ⟨d, h1, h2, _⟩ := rlabel_spec hshape.mates c hc
            exact ⟨d, h1, h2⟩
          have Hlabl : Hid ((ints (rlabel M S.length)).length = S.length) := Lib.hid (by rw [ints_length]; exact (rlPass_inv hshape.mates S.length).1.1)
          clear hshape Hno Hsg Hmt
          go_wp2_with fail
          refine (rlabel_any M S.length aM cM _ (by omega) H2.out Hmok.out (HM.out.later hb)).mono ?_
          rintro e w2 ⟨aB, cB, rfl, hb2, hOl⟩
          have hb2' := below_step hb hb2
          have hsz2 := hb2'.size
          have Hbox2 := Lib.hid (Hbox.out.later hb2 hz)
          have hc1 := Hbox2.out.cell 1
          simp only [List.getElem?_cons_succ, List.getElem?_cons_zero] at hc1
          have HOl := Lib.hid (hOl.mono hb.size)
          clear hOl Hbox hb hb2 hc0 hc2 Hbd
          go_wp2_with fail
          refine (faces_any M S.length aM cM _ (by omega) H2.out Hmok.out (HM.out.later hb2')).mono ?_
          rintro e w3 ⟨aF, cF, rfl, hb3, hOf⟩
          have hb3' := below_step hb2' hb3
          have HOl3 := Lib.hid (HOl.out.later hb3 (Nat.le_refl _))
          have HOf := Lib.hid (hOf.mono hsz2)
          clear hOf HOl Hbox2 hb2' hb3 hc1
          generalize rlabel M S.length = lab at *
          generalize clTo (fb M (-1)) (perOf (fb M (-1)) (4 * S.length)) (fun _ => true) (4 * S.length) = ls at *
          go_wp2_with fail
          go_loopg [9] S.length (fun g i wr => ∃ c : Nat, c ≤ S.length ∧ g = S.length - c ∧ i = .int .i64 c ∧ wr = w3 ∧ ∀ d, d < c → rsOk lab S.length ls d)
          case atStart => exact ⟨0, Nat.zero_le _, rfl, rfl, rfl, fun d hd => by omega⟩
          case round =>
            obtain ⟨c, hc, rfl, rfl, rfl, hok⟩ := hrel
            have Hokc := Lib.hid hok; clear hok
            by_cases hlt : c < S.length
            · obtain ⟨d, hd, hdl⟩ := Hlab.out c hlt
              obtain ⟨b, off, rfl, _, hbl, hcell, _⟩ := HOl3.out.open (by rw [Hlabl.out]; omega)
              have hcc := hcell c _ (ints_get _ _ (by have := Hlabl.out; rw [ints_length] at this; omega))
              have Hcell : Hid (∀ x, x < S.length → wr.cell? ⟨b, off + x, none⟩ = some (.int .i64 (nth lab x))) := Lib.hid fun x hx => hcell x _ (ints_get _ _ (by have := Hlabl.out; rw [ints_length] at this; omega))
              clear hcell
              have Hd := Lib.hid hd
              rw [hd] at hcc
              clear hd
              by_cases hdc : d = c
              · subst hdc
                have t1 : ((d : Int) != (d : Int)) = false := by simp
                go_wp2_with fail
                go_loopg [12, 10] S.length (fun g i v wi => ∃ k : Nat, k ≤ S.length ∧ g = S.length - k ∧ i = .int .i64 k ∧ v = .int .i64 (rvTo lab d k : Nat) ∧ wi = wr)
                case atStart => exact ⟨0, Nat.zero_le _, rfl, rfl, by simp [rvTo], rfl⟩
                case round =>
                  obtain ⟨k, hk, rfl, rfl, rfl, rfl⟩ := hrel
                  have hvk := rvTo_le lab d k
                  by_cases hkl : k < S.length
                  · obtain ⟨e, he, hel⟩ := Hlab.out k hkl
                    have hck := Hcell.out k hkl
                    have Hs := Lib.hid (rvTo_succ lab d k)
                    rw [he] at hck
                    by_cases hed : e = d
                    · have t2 : ((e : Int) == (d : Int)) = true := by rw [hed]; simp
                      have HE : Hid (rvTo lab d (k + 1) = rvTo lab d k + 1) := Lib.hid (by rw [Hs.out, if_pos (by rw [he, hed])])
                      generalize rvTo lab d k = v at *
                      clear he hed
                      go_wp2_with fail
                      go_roundg (S.length - (k + 1))
                      case measure => omega
                      case rel => exact ⟨k + 1, by omega, rfl, by go_num, by rw [HE.out]; go_num, rfl⟩
                    · have t2 : ((e : Int) == (d : Int)) = false := by simpa using fun h : (e : Int) = d => hed (by omega)
                      have HE : Hid (rvTo lab d (k + 1) = rvTo lab d k) := Lib.hid (by rw [Hs.out, if_neg (by rw [he]; omega)])
                      generalize rvTo lab d k = v at *
                      clear he hed
                      go_wp2_with fail
                      go_roundg (S.length - (k + 1))
                      case measure => omega
                      case rel => exact ⟨k + 1, by omega, rfl, by go_num, by rw [HE.out], rfl⟩
                  · obtain rfl : k = S.length := by omega
                    have Hrv : Hid (rvTo lab d S.length = rvTo lab d S.length) := Lib.hid rfl
                    go_wp2_with fail
                    go_loopg [13, 11] ls.length (fun g i v wi => ∃ k : Nat, k ≤ ls.length ∧ g = ls.length - k ∧ i = .int .i64 k ∧ v = .int .i64 (rfTo lab d (ls.take k) : Nat) ∧ wi = wr)
                    case atStart => exact ⟨0, Nat.zero_le _, rfl, rfl, by simp [rfTo], rfl⟩
                    case round =>
                      obtain ⟨k, hk, rfl, rfl, rfl, rfl⟩ := hrel
                      have hfk := rfTo_le lab d (ls.take k)
                      rw [List.length_take] at hfk
                      by_cases hkl : k < ls.length
                      · obtain ⟨l, hl⟩ : ∃ l, ls[k]? = some l := ⟨_, List.getElem?_eq_getElem hkl⟩
                        obtain ⟨g1, g2, g3⟩ := Hheads.out k l hl
                        have Hs := Lib.hid (rfTo_take lab d ls k l hl)
                        obtain ⟨bF, oF, rfl, _, hbF, hF⟩ := HOf.out.open (by simpa using (show 0 < ls.length by omega))
                        obtain ⟨aR, cR, hcF, hoR⟩ := hF k (nats l) (by rw [List.getElem?_map, hl]; rfl)
                        rw [nats_length] at hcF
                        obtain ⟨bR, oR, rfl, _, hbR, hR, _⟩ := hoR.open (by rw [ints_length, nats_length]; exact g1)
                        have hcR := hR 0 _ (ints_get _ _ (by rw [nats_length]; exact g1))
                        rw [g3, Nat.add_zero] at hcR
                        obtain ⟨e, he, hel⟩ := Hlab.out (l.headD 0 / 4) (by omega)
                        have hck := Hcell.out (l.headD 0 / 4) (by omega)
                        rw [he] at hck
                        have hq1 : ((l.headD 0 : Nat) : Int) / 4 < (S.length : Int) := by omega
                        clear hF hR hoR
                        generalize l.headD 0 = x at *
                        generalize l.length = y at *
                        by_cases hed : e = d
                        · have t2 : ((e : Int) == (d : Int)) = true := by rw [hed]; simp
                          have HE : Hid (rfTo lab d (ls.take (k + 1)) = rfTo lab d (ls.take k) + 1) := Lib.hid (by rw [Hs.out, if_pos (by rw [he, hed])])
                          generalize rfTo lab d (ls.take k) = v at *
                          clear he hed
                          go_wp2_with fail
                          go_roundg (ls.length - (k + 1))
                          case measure => omega
                          case rel => exact ⟨k + 1, by omega, rfl, by go_num, by rw [HE.out]; go_num, rfl⟩
                        · have t2 : ((e : Int) == (d : Int)) = false := by simpa using fun h : (e : Int) = d => hed (by omega)
                          have HE : Hid (rfTo lab d (ls.take (k + 1)) = rfTo lab d (ls.take k)) := Lib.hid (by rw [Hs.out, if_neg (by rw [he]; omega)])
                          generalize rfTo lab d (ls.take k) = v at *
                          clear he hed
                          go_wp2_with fail
                          go_roundg (ls.length - (k + 1))
                          case measure => omega
                          case rel => exact ⟨k + 1, by omega, rfl, by go_num, by rw [HE.out], rfl⟩
                      · obtain rfl : k = ls.length := by omega
                        rw [List.take_length] at *
                        have Hrs : Hid (rsOk lab S.length ls d ↔ rfTo lab d ls = rvTo lab d S.length + 2) := Lib.hid ⟨fun h => h Hd.out, fun h _ => h⟩
                        generalize rfTo lab d ls = fl at *
                        generalize rvTo lab d S.length = vl at *
                        by_cases hfv : fl = vl + 2
                        · have t3 : ((fl : Int) != (vl : Int) + 2) = false := by rw [hfv]; simp
                          have Hn : Hid (rsOk lab S.length ls d) := Lib.hid (Hrs.out.2 hfv)
                          clear hfv
                          go_wp2_with fail
                          go_roundg (S.length - (d + 1))
                          case measure => omega
                          case rel =>
                            refine ⟨d + 1, by omega, rfl, by go_num, rfl, fun x hx => ?_⟩
                            rcases Nat.lt_or_ge x d with h | h
                            · exact Hokc.out x h
                            · obtain rfl : x = d := by omega
                              exact Hn.out
                        · have t3 : ((fl : Int) != (vl : Int) + 2) = true := by rw [bne_iff_ne]; omega
                          have Hn : Hid (vldB S M L = false) := Lib.hid (by
                            rw [← Bool.not_eq_true]
                            intro h
                            exact hfv (Hrs.out.1 (Hv.out.1 h d (by omega))))
                          clear hfv
                          go_wp2_with fail
                          go_ret
                          rw [Hn.out]
                          exact ⟨rfl, hb3'⟩
              · have t1 : ((d : Int) != (c : Int)) = true := by rw [bne_iff_ne]; omega
                have Hn : Hid (rsOk lab S.length ls c) := Lib.hid fun h => absurd (Hd.out.symm.trans h) (by omega)
                clear hdc
                go_wp2_with fail
                go_roundg (S.length - (c + 1))
                case measure => omega
                case rel =>
                  refine ⟨c + 1, by omega, rfl, by go_num, rfl, fun x hx => ?_⟩
                  rcases Nat.lt_or_ge x c with h | h
                  · exact Hokc.out x h
                  · obtain rfl : x = c := by omega
                    exact Hn.out
            · obtain rfl : c = S.length := by omega
              have Hn : Hid (vldB S M L = true) := Lib.hid (Hv.out.2 Hokc.out)
              go_wp2_with fail
              go_ret
              rw [Hn.out]
              exact ⟨rfl, hb3'⟩
end Go.Proofs.YtmhhjchnjaefhaaDoor


