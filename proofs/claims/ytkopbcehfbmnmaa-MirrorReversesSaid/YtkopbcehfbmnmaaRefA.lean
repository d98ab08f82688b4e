/- The walks of the reference's faces and strands. -/
import Derived.Test.YtkopbcehfbmnmaaPlainA
import Derived.Test.YtkopbcehfbmnmaaOutW
import Derived.Test.YtkopbcehfbmnmaaLabelW
import Derived.Test.YtkopbcehfbmnmaaCycleA
namespace Go.Proofs.Ytkopbcehfbmnmaa
open Go Go.RowKit
/-! ### The walks of the reference's Out, Face, Strand. -/
set_option maxHeartbeats 1000000 in
theorem rout_any (S : List Int) (aS : Option Addr) (cS : Nat) (h : Nat) (w : World) (hh : h < 4 * S.length) (hb : S.length ≤ 1000000) (hS : IntsAt w aS S) :
    Calls Try.prog 100 #[.slice aS S.length cS, .int .i64 (h : Int)] w fun e w' => e = .returned (.bool (outB S h)) ∧ w = w' := by
  obtain ⟨b, off, rfl, hbl, hc⟩ := hS.open (by omega)
  have hc1 := hc (h / 4) (by omega)
  have hlt : (h : Int) / 4 < (S.length : Int) := by omega
  clear hc hS
  rcases (show h % 4 = 0 ∨ h % 4 = 1 ∨ h % 4 = 2 ∨ h % 4 = 3 by omega) with e | e | e | e
  · have hv := outB_0 S h e
    have e' : ((h : Int) % 4) = 0 := by omega
    clear e
    have t1 : (((h : Int) % 4) == 1) = false := by rw [e']; rfl
    have t2 : (((h : Int) % 4) == 2) = false := by rw [e']; rfl
    have t3 : (((h : Int) % 4) == 3) = false := by rw [e']; rfl
    clear e'
    go_enter Try.func100, Try.ntmps100
    go_wp2
    go_ret
    exact ⟨ret_bool hv.symm, rfl⟩
  · have hv := Lib.hid (outB_1 S h e)
    have e' : ((h : Int) % 4) = 1 := by omega
    clear e
    have t1 : (((h : Int) % 4) == 1) = true := by rw [e']; rfl
    have t2 : (((h : Int) % 4) == 2) = false := by rw [e']; rfl
    clear e'
    go_enter Try.func100, Try.ntmps100
    go_wp2
    go_ret
    exact ⟨ret_bool hv.out.symm, rfl⟩
  · have hv := outB_2 S h e
    have e' : ((h : Int) % 4) = 2 := by omega
    clear e
    have t2 : (((h : Int) % 4) == 2) = true := by rw [e']; rfl
    clear e'
    go_enter Try.func100, Try.ntmps100
    go_wp2
    go_ret
    exact ⟨ret_bool hv.symm, rfl⟩
  · have hv := Lib.hid (outB_3 S h e)
    have e' : ((h : Int) % 4) = 3 := by omega
    clear e
    have t1 : (((h : Int) % 4) == 1) = false := by rw [e']; rfl
    have t2 : (((h : Int) % 4) == 2) = false := by rw [e']; rfl
    have t3 : (((h : Int) % 4) == 3) = true := by rw [e']; rfl
    clear e'
    go_enter Try.func100, Try.ntmps100
    go_wp2
    go_ret
    exact ⟨ret_bool hv.out.symm, rfl⟩
set_option maxRecDepth 100000 in
set_option maxHeartbeats 2000000 in
theorem face_any (M : List Int) (n : Nat) (aM : Option Addr) (cM : Nat) (w : World) (h p : Nat) (hn : n ≤ 1000) (hl : M.length = 4 * n) (hm : MateOk M n) (hh : h < 4 * n) (hM : IntsAt w aM M) (hp : IsPer (fb M (-1)) h p) (hpn : p ≤ 4 * n) :
    Calls Try.prog 156 #[.slice aM M.length cM, .int .i64 (h : Int)] w fun e w' => ∃ a c, e = .returned (.slice a p c) ∧ Below w.heap.size w w' ∧ Own w' w.heap.size 3 a c (ints (nats (orb (fb M (-1)) h p))) := by
  obtain ⟨i0, hi, hz0, hz1, hz2⟩ := info_parts Try.info3
  obtain ⟨b, off, rfl, hbl, hcM⟩ := hM.open (by omega)
  have Hinj := Lib.hid (hm.injB (-1) (by omega))
  have HcM : Hid (∀ W, Below w.heap.size w W → ∀ x, x < 4 * n → ∃ m : Nat, nth M x = (m : Int) ∧ m < 4 * n ∧ W.cell? ⟨b, off + x, none⟩ = some (.int .i64 (m : Int))) := Lib.hid (by
    intro W hW x hx
    have h1 := hm.lt x hx
    obtain ⟨m, hm'⟩ := Int.eq_ofNat_of_zero_le h1.1
    refine ⟨m, hm', by omega, ?_⟩
    rw [hW.cell (p := ⟨b, off + x, none⟩) hbl, hcM x (by omega), hm'])
  have Hp := Lib.hid hp
  have hM1 : M.length ≤ 4 * n := by omega
  have hM2 : 4 * n ≤ M.length := by omega
  obtain ⟨m0, Hm0, hm0, hc0⟩ := HcM.out (w.alloc (.cells #[.int .i64 (h : Int)] 3)) ((Below.refl _ _).alloc (Nat.le_refl _) _) h hh
  have HN : Hid (iter (fb M (-1)) 1 h = tn m0 (-1)) := Lib.hid (by show fb M (-1) h = _; unfold fb; rw [Hm0, Int.toNat_natCast])
  have HMz := Lib.hid Hm0
  clear hl hm hM hp hcM Hm0
  go_enter Try.func156, Try.ntmps156
  go_wp2_with fail
  refine (rturn_any m0 (-1) _ (by omega) (by omega) (by omega)).mono ?_
  rintro e w1 ⟨rfl, rfl⟩
  go_wp2_with fail
  go_loopg [6, 5] (p - 1) (fun g hv lv wr => ∃ (k : Nat) (A : Option Addr) (c : Nat), 0 < k ∧ k ≤ p ∧ g = p - k ∧ hv = .int .i64 ((iter (fb M (-1)) k h : Nat) : Int) ∧ lv = .slice A k c ∧ Own wr w.heap.size 3 A c (ints (nats (orb (fb M (-1)) h k))) ∧ Below w.heap.size w wr)
  case atStart =>
    refine ⟨1, some ⟨w.heap.size, 0, none⟩, 1, by omega, Hp.out.1, rfl, by rw [HN.out], rfl, ?_, (Below.refl _ _).alloc (Nat.le_refl _) _⟩
    have h1 := Own.made (w := w) (B := w.heap.size) (E := 3) #[Value.int .i64 (h : Int)] (Nat.le_refl _)
    simpa [ints, nats, orb, iter] using h1
  case round =>
    clear hc0 HN HMz
    obtain ⟨k, A, c, hk0, hkp, rfl, rfl, rfl, hown, hb⟩ := hrel
    have hsz := hb.size
    by_cases hlt : k < p
    · have hne := Hp.out.2.2 k hk0 hlt
      have hx := iter_lt (fb M (-1)) (4 * n) Hinj.out.lt k h hh
      have ht : (((iter (fb M (-1)) k h : Nat) : Int) != (h : Int)) = true := by simp; omega
      have Hown := Lib.hid hown; clear hown
      have Hne := Lib.hid hne; clear hne
      have Hlen : Hid ((ints (nats (orb (fb M (-1)) h k))).length = k) := Lib.hid (by rw [ints_length, nats_length, orb_length])
      have Hsn : Hid (ints (nats (orb (fb M (-1)) h k)) ++ [.int .i64 ((iter (fb M (-1)) k h : Nat) : Int)] = ints (nats (orb (fb M (-1)) h (k + 1)))) := Lib.hid (by rw [ints_snoc, nats_snoc, orb_succ])
      have Hcell : Hid ((wr.alloc (.cells #[.int .i64 ((iter (fb M (-1)) k h : Nat) : Int)] 3)).cell? ⟨wr.heap.size, 0, none⟩ = some (.int .i64 ((iter (fb M (-1)) k h : Nat) : Int))) := Lib.hid (by simp)
      have Hit := Lib.hid (show iter (fb M (-1)) (k + 1) h = tn (nth M (iter (fb M (-1)) k h)).toNat (-1) from rfl)
      generalize iter (fb M (-1)) k h = x at *
      have hdec : decide (k ≤ M.length) = true := decide_eq_true (by omega)
      go_wp2_with (with_reducible refine wpList_append_one rfl (.tmp 29) (.tmp 31) 22 rfl w.heap.size 3 i0 (.int .i64 0) 8 Try.underlying22 hi hz0 hz1 hz2 rfl A k c _ rfl Hlen.out (Hown.out.alloc _) _ 1 (.int .i64 (x : Int)) rfl Hcell.out rfl (by omega) (by omega) (by simp; omega) ?_; intro A2 c2 w2 hO2 hT2 hA2; have hb2 : Below w.heap.size w w2 := (hb.alloc hsz _).trans (hT2.below (by simp; omega) (fun y hy => (Hown.out.lt hy).1)); obtain ⟨m, HM, hmm, hcm⟩ := HcM.out w2 hb2 x hx; have HMm := Lib.hid HM; clear HM)
      refine (rturn_any m (-1) _ (by omega) (by omega) (by omega)).mono ?_
      rintro e w3 ⟨rfl, rfl⟩
      go_wp2_with fail
      go_roundg (p - (k + 1))
      case measure => omega
      case rel =>
        refine ⟨k + 1, A2, c2, by omega, by omega, rfl, by rw [Hit.out, HMm.out, Int.toNat_natCast], rfl, ?_, hb2⟩
        rw [← Hsn.out]
        exact hO2
    · obtain rfl : k = p := by omega
      have he := Hp.out.2.1
      have ht : (((iter (fb M (-1)) k h : Nat) : Int) != (h : Int)) = false := by rw [he]; simp
      have Hown := Lib.hid hown; clear hown he
      go_wp2_with fail
      go_ret
      exact ⟨A, c, rfl, hb, Hown.out⟩
set_option maxRecDepth 100000 in
set_option maxHeartbeats 2000000 in
theorem strand_any (S M : List Int) (L : Int) (n : Nat) (aS aM : Option Addr) (cS cM : Nat) (w : World) (h p : Nat) (hn : n ≤ 1000) (hl : M.length = 4 * n) (hm : MateOk M n) (hh : h < 4 * n) (hM : IntsAt w aM M) (hp : IsPer (fb M 2) h p) (hpn : p ≤ 4 * n) :
    Calls Try.prog 162 #[.agg #[.slice aS S.length cS, .slice aM M.length cM, .int .i64 L], .int .i64 (h : Int)] w fun e w' => ∃ a c, e = .returned (.slice a p c) ∧ Below w.heap.size w w' ∧ Own w' w.heap.size 3 a c (ints (nats (orb (fb M 2) h p))) := by
  obtain ⟨i0, hi, hz0, hz1, hz2⟩ := info_parts Try.info3
  obtain ⟨b, off, rfl, hbl, hcM⟩ := hM.open (by omega)
  have Hinj := Lib.hid (hm.injB 2 (by omega))
  have HcM : Hid (∀ W, Below w.heap.size w W → ∀ x, x < 4 * n → ∃ m : Nat, nth M x = (m : Int) ∧ m < 4 * n ∧ W.cell? ⟨b, off + x, none⟩ = some (.int .i64 (m : Int))) := Lib.hid (by
    intro W hW x hx
    have h1 := hm.lt x hx
    obtain ⟨m, hm'⟩ := Int.eq_ofNat_of_zero_le h1.1
    refine ⟨m, hm', by omega, ?_⟩
    rw [hW.cell (p := ⟨b, off + x, none⟩) hbl, hcM x (by omega), hm'])
  have Hp := Lib.hid hp
  have hM1 : M.length ≤ 4 * n := by omega
  have hM2 : 4 * n ≤ M.length := by omega
  have Hbox := Lib.hid (Row.new w #[.slice aS S.length cS, .slice (some ⟨b, off, none⟩) M.length cM, .int .i64 L] 24)
  obtain ⟨m0, Hm0, hm0, hc0⟩ := HcM.out ((w.alloc (.cells #[.slice aS S.length cS, .slice (some ⟨b, off, none⟩) M.length cM, .int .i64 L] 24)).alloc (.cells #[.int .i64 (h : Int)] 3)) (((Below.refl _ _).alloc (Nat.le_refl _) _).alloc (by simp) _) h hh
  have HN : Hid (iter (fb M 2) 1 h = tn m0 2) := Lib.hid (by show fb M 2 h = _; unfold fb; rw [Hm0, Int.toNat_natCast])
  have HMz := Lib.hid Hm0
  clear hl hm hM hp hcM Hm0
  go_enter Try.func162, Try.ntmps162
  go_wp2_with fail
  refine (rturn_any m0 2 _ (by omega) (by omega) (by omega)).mono ?_
  rintro e w1 ⟨rfl, rfl⟩
  go_wp2_with fail
  go_loopg [6, 5] (p - 1) (fun g hv lv wr => ∃ (k : Nat) (A : Option Addr) (c : Nat), 0 < k ∧ k ≤ p ∧ g = p - k ∧ hv = .int .i64 ((iter (fb M 2) k h : Nat) : Int) ∧ lv = .slice A k c ∧ Own wr w.heap.size 3 A c (ints (nats (orb (fb M 2) h k))) ∧ Below w.heap.size w wr ∧ Row wr w.heap.size 24 [.slice aS S.length cS, .slice (some ⟨b, off, none⟩) M.length cM, .int .i64 L])
  case atStart =>
    refine ⟨1, some ⟨w.heap.size + 1, 0, none⟩, 1, by omega, Hp.out.1, rfl, by rw [HN.out], rfl, ?_, ((Below.refl _ _).alloc (Nat.le_refl _) _).alloc (by simp) _, Hbox.out.alloc _⟩
    have h1 := Own.made (w := w.alloc (.cells #[.slice aS S.length cS, .slice (some ⟨b, off, none⟩) M.length cM, .int .i64 L] 24)) (B := w.heap.size) (E := 3) #[Value.int .i64 (h : Int)] (by simp)
    simpa [ints, nats, orb, iter] using h1
  case round =>
    clear hc0 HN HMz Hbox
    obtain ⟨k, A, c, hk0, hkp, rfl, rfl, rfl, hown, hb, hbox⟩ := hrel
    have hbx := hbox.cell 1
    simp only [List.getElem?_cons_succ, List.getElem?_cons_zero] at hbx
    have Hbox := Lib.hid hbox; clear hbox
    have hsz := hb.size
    by_cases hlt : k < p
    · have hne := Hp.out.2.2 k hk0 hlt
      have hx := iter_lt (fb M 2) (4 * n) Hinj.out.lt k h hh
      have ht : (((iter (fb M 2) k h : Nat) : Int) != (h : Int)) = true := by simp; omega
      have Hown := Lib.hid hown; clear hown
      have Hne := Lib.hid hne; clear hne
      have Hlen : Hid ((ints (nats (orb (fb M 2) h k))).length = k) := Lib.hid (by rw [ints_length, nats_length, orb_length])
      have Hsn : Hid (ints (nats (orb (fb M 2) h k)) ++ [.int .i64 ((iter (fb M 2) k h : Nat) : Int)] = ints (nats (orb (fb M 2) h (k + 1)))) := Lib.hid (by rw [ints_snoc, nats_snoc, orb_succ])
      have Hcell : Hid ((wr.alloc (.cells #[.int .i64 ((iter (fb M 2) k h : Nat) : Int)] 3)).cell? ⟨wr.heap.size, 0, none⟩ = some (.int .i64 ((iter (fb M 2) k h : Nat) : Int))) := Lib.hid (by simp)
      have Hit := Lib.hid (show iter (fb M 2) (k + 1) h = tn (nth M (iter (fb M 2) k h)).toNat 2 from rfl)
      generalize iter (fb M 2) k h = x at *
      have hdec : decide (k ≤ M.length) = true := decide_eq_true (by omega)
      go_wp2_with (with_reducible refine wpList_append_one rfl (.tmp 32) (.tmp 34) 22 rfl w.heap.size 3 i0 (.int .i64 0) 8 Try.underlying22 hi hz0 hz1 hz2 rfl A k c _ rfl Hlen.out (Hown.out.alloc _) _ 1 (.int .i64 (x : Int)) rfl Hcell.out rfl (by omega) (by omega) (by simp; omega) ?_; intro A2 c2 w2 hO2 hT2 hA2; have hb2 : Below w.heap.size w w2 := (hb.alloc hsz _).trans (hT2.below (by simp; omega) (fun y hy => (Hown.out.lt hy).1)); have hbox2 := Lib.hid ((Hbox.out.alloc (.cells #[.int .i64 (x : Int)] 3)).turnedT (Hown.out.alloc _) (by decide) hT2); have hbx2 := hbox2.out.cell 1; simp only [List.getElem?_cons_succ, List.getElem?_cons_zero] at hbx2; obtain ⟨m, HM, hmm, hcm⟩ := HcM.out w2 hb2 x hx; have HMm := Lib.hid HM; clear HM)
      refine (rturn_any m 2 _ (by omega) (by omega) (by omega)).mono ?_
      rintro e w3 ⟨rfl, rfl⟩
      go_wp2_with fail
      go_roundg (p - (k + 1))
      case measure => omega
      case rel =>
        refine ⟨k + 1, A2, c2, by omega, by omega, rfl, by rw [Hit.out, HMm.out, Int.toNat_natCast], rfl, ?_, hb2, hbox2.out⟩
        rw [← Hsn.out]
        exact hO2
    · obtain rfl : k = p := by omega
      have he := Hp.out.2.1
      have ht : (((iter (fb M 2) k h : Nat) : Int) != (h : Int)) = false := by rw [he]; simp
      have Hown := Lib.hid hown; clear hown he
      go_wp2_with fail
      go_ret
      exact ⟨A, c, rfl, hb, Hown.out⟩
/-! ### The walks of the reference's Faces and Strands. -/
theorem leastB_to (f per : Nat → Nat) (h : Nat) : leastB f per h = leastTo f h (per h) := rfl
set_option maxRecDepth 100000 in
set_option maxHeartbeats 4000000 in
theorem faces_any (M : List Int) (n : Nat) (aM : Option Addr) (cM : Nat) (w : World) (hn : n ≤ 1000) (hl : M.length = 4 * n) (hm : MateOk M n) (hM : IntsAt w aM M) :
    Calls Try.prog 102 #[.slice aM M.length cM] w fun e w' => ∃ a c, e = .returned (.slice a (clTo (fb M (-1)) (perOf (fb M (-1)) (4 * n)) (fun _ => true) (4 * n)).length c) ∧ Below w.heap.size w w' ∧ OwnRows w' w.heap.size a c ((clTo (fb M (-1)) (perOf (fb M (-1)) (4 * n)) (fun _ => true) (4 * n)).map nats) := by
  obtain ⟨i1, hi1, hy0, hy1, hy2⟩ := info_parts Try.info22
  have Hinj := Lib.hid (hm.injB (-1) (by omega))
  have Hm := Lib.hid hm
  have HL := Lib.hid hl
  have HM := Lib.hid hM
  have hM1 : M.length ≤ 4 * n := by omega
  have hM2 : 4 * n ≤ M.length := by omega
  clear hl hm hM
  go_enter Try.func102, Try.ntmps102
  go_wp2_with fail
  go_loopg [4, 3] (4 * n) (fun g i av wr => ∃ (k : Nat) (A : Option Addr) (c : Nat), k ≤ 4 * n ∧ g = 4 * n - k ∧ i = .int .i64 k ∧ av = .slice A (clTo (fb M (-1)) (perOf (fb M (-1)) (4 * n)) (fun _ => true) k).length c ∧ OwnRows wr w.heap.size A c ((clTo (fb M (-1)) (perOf (fb M (-1)) (4 * n)) (fun _ => true) k).map nats) ∧ Below w.heap.size w wr)
  case atStart => exact ⟨0, none, 0, Nat.zero_le _, rfl, rfl, by simp [clTo], by simpa [clTo] using OwnRows.nil w w.heap.size, Below.refl _ _⟩
  case round =>
    obtain ⟨k, A, c, hk, rfl, rfl, rfl, hown, hb⟩ := hrel
    have hsz := hb.size
    have hcl := clTo_len (fb M (-1)) (perOf (fb M (-1)) (4 * n)) (fun _ => true) k
    have Hsucc := Lib.hid (clTo_succ (fb M (-1)) (perOf (fb M (-1)) (4 * n)) (fun _ => true) k)
    generalize hst : clTo (fb M (-1)) (perOf (fb M (-1)) (4 * n)) (fun _ => true) k = st at *
    have Hst := Lib.hid hst; clear hst
    have Hown := Lib.hid hown; clear hown
    by_cases hlt : k < 4 * n
    · have hpp := perOf_le (fb M (-1)) (4 * n) k (by omega)
      have Hper := Lib.hid (perOf_spec Hinj.out k hlt)
      have Hlst := Lib.hid (leastB_to (fb M (-1)) (perOf (fb M (-1)) (4 * n)) k)
      generalize perOf (fb M (-1)) (4 * n) k = p at *
      go_wp2_with fail
      refine (face_any M n aM cM wr k p hn HL.out Hm.out hlt (HM.out.later hb) Hper.out hpp).mono ?_
      rintro e w2 ⟨A2, c2, rfl, hb2, hO2⟩
      have hb2' := below_step hb hb2
      have hsz2 := hb2'.size
      have Hown2 := Lib.hid (Hown.out.later hb2 (Nat.le_refl _))
      have HO2 := Lib.hid (hO2.mono hsz)
      clear hO2 Hown hb2 hb
      go_wp2_with fail
      go_loopg [7, 6] p (fun g i lv wi => ∃ j : Nat, j ≤ p ∧ g = p - j ∧ i = .int .i64 j ∧ lv = .bool (leastTo (fb M (-1)) k j) ∧ wi = w2)
      case atStart => exact ⟨0, Nat.zero_le _, rfl, rfl, rfl, rfl⟩
      case round =>
        obtain ⟨j, hj, rfl, rfl, rfl, rfl⟩ := hrel
        have hlen : (orb (fb M (-1)) k p).length = p := orb_length _ _ _
        by_cases hjl : j < p
        · obtain ⟨b, off, rfl, hB, hbl, hcell, _⟩ := HO2.out.open (by rw [ints_length, nats_length, hlen]; omega)
          have hcj := hcell j _ (ints_get _ _ (by rw [nats_length, hlen]; exact hjl))
          rw [nth_nats _ _ (by rw [hlen]; exact hjl), orb_getD _ _ _ _ hjl] at hcj
          have Hls := Lib.hid (leastTo_succ (fb M (-1)) k j)
          generalize iter (fb M (-1)) j k = x at *
          clear hcell hlen
          by_cases hls : leastTo (fb M (-1)) k j = true
          · have HLs : Hid (leastTo (fb M (-1)) k (j + 1) = decide (k ≤ x)) := Lib.hid (by rw [Hls.out, hls, Bool.true_and])
            rw [hls]
            clear hls
            go_wp2_with fail
            go_roundg (p - (j + 1))
            case measure => omega
            case rel => exact ⟨j + 1, by omega, rfl, by go_num, by rw [HLs.out], rfl⟩
          · have hls2 : leastTo (fb M (-1)) k j = false := by simpa using hls
            have HLs : Hid (leastTo (fb M (-1)) k (j + 1) = false) := Lib.hid (by rw [Hls.out, hls2, Bool.false_and])
            rw [hls2]
            clear hls hls2
            go_wp2_with fail
            go_roundg (p - (j + 1))
            case measure => omega
            case rel => exact ⟨j + 1, by omega, rfl, by go_num, by rw [HLs.out], rfl⟩
        · obtain rfl : j = p := by omega
          clear hlen
          rw [← Hlst.out]
          by_cases hls : leastB (fb M (-1)) (perOf (fb M (-1)) (4 * n)) k = true
          · have HE : Hid (clTo (fb M (-1)) (perOf (fb M (-1)) (4 * n)) (fun _ => true) (k + 1) = st ++ [orb (fb M (-1)) k j]) := Lib.hid (by rw [Hsucc.out, if_pos (by simpa using hls)])
            rw [hls]
            clear hls
            obtain ⟨vs, hvs, hro⟩ := Hown2.out
            have hvl := hro.1
            simp only [List.length_map] at hvl
            have hs3 : (nats (orb (fb M (-1)) k j)).length = j := by rw [nats_length, orb_length]
            have hsn := hro.snoc HO2.out
            rw [hs3] at hsn
            have Hvs := Lib.hid hvs
            have Hsn := Lib.hid hsn
            clear hsn hro hvs hs3
            go_wp2_with (with_reducible refine wpList_append_one rfl (.tmp 33) (.tmp 35) 30 rfl w.heap.size 22 i1 (.slice none 0 0) 24 Try.underlying30 hi1 hy0 hy1 hy2 rfl A _ c vs rfl hvl (Hvs.out.alloc _) _ 1 (.slice A2 j c2) rfl (by simp) rfl (by omega) (by omega) (by simp; omega) ?_; intro A3 c3 w3 hO3 hT3 hA3)
            have hb3 : Below w.heap.size w w3 := (hb2'.alloc (by omega) _).trans (hT3.below (by simp; omega) (fun y hy => (Hvs.out.lt hy).1))
            go_roundg (4 * n - (k + 1))
            case measure => omega
            case rel =>
              refine ⟨k + 1, A3, c3, by omega, rfl, by go_num, by rw [HE.out]; simp, ?_, hb3⟩
              rw [HE.out, List.map_append]
              exact ⟨_, hO3, (Hsn.out.alloc _).turned (Hvs.out.alloc _) (by decide) hT3⟩
          · have hls2 : leastB (fb M (-1)) (perOf (fb M (-1)) (4 * n)) k = false := by simpa using hls
            have HE : Hid (clTo (fb M (-1)) (perOf (fb M (-1)) (4 * n)) (fun _ => true) (k + 1) = st) := Lib.hid (by rw [Hsucc.out, if_neg (by simpa using hls)])
            rw [hls2]
            clear hls hls2
            go_wp2_with fail
            go_roundg (4 * n - (k + 1))
            case measure => omega
            case rel => exact ⟨k + 1, A, c, by omega, rfl, by go_num, by rw [HE.out], by rw [HE.out]; exact Hown2.out, hb2'⟩
    · obtain rfl : k = 4 * n := by omega
      go_wp2_with fail
      go_ret
      rw [Hst.out]
      exact ⟨A, c, rfl, hb, Hown.out⟩
set_option maxRecDepth 100000 in
set_option maxHeartbeats 4000000 in
theorem rstrands_any (S M : List Int) (L : Int) (n : Nat) (aS aM : Option Addr) (cS cM : Nat) (w : World) (hn : n ≤ 1000) (hSn : S.length = n) (hS : IntsAt w aS S) (hl : M.length = 4 * n) (hm : MateOk M n) (hM : IntsAt w aM M) :
    Calls Try.prog 129 #[.agg #[.slice aS S.length cS, .slice aM M.length cM, .int .i64 L]] w fun e w' => ∃ a c, e = .returned (.slice a (clTo (fb M 2) (perOf (fb M 2) (4 * n)) (outB S) (4 * n)).length c) ∧ Below w.heap.size w w' ∧ OwnRows w' w.heap.size a c ((clTo (fb M 2) (perOf (fb M 2) (4 * n)) (outB S) (4 * n)).map nats) := by
  obtain ⟨i1, hi1, hy0, hy1, hy2⟩ := info_parts Try.info22
  have Hinj := Lib.hid (hm.injB 2 (by omega))
  have Hm := Lib.hid hm
  have HL := Lib.hid hl
  have HM := Lib.hid hM
  have hM1 : M.length ≤ 4 * n := by omega
  have hM2 : 4 * n ≤ M.length := by omega
  have HS := Lib.hid hS
  have HSn := Lib.hid hSn
  have hS1 : S.length ≤ n := by omega
  have hS2 : n ≤ S.length := by omega
  clear hl hm hM hS hSn
  go_enter Try.func129, Try.ntmps129
  go_wp2_with fail
  go_loopg [4, 3] (4 * n) (fun g i av wr => ∃ (k : Nat) (A : Option Addr) (c : Nat), k ≤ 4 * n ∧ g = 4 * n - k ∧ i = .int .i64 k ∧ av = .slice A (clTo (fb M 2) (perOf (fb M 2) (4 * n)) (outB S) k).length c ∧ OwnRows wr w.heap.size A c ((clTo (fb M 2) (perOf (fb M 2) (4 * n)) (outB S) k).map nats) ∧ Below w.heap.size w wr ∧ Row wr w.heap.size 24 [.slice aS S.length cS, .slice aM M.length cM, .int .i64 L])
  case atStart => exact ⟨0, none, 0, Nat.zero_le _, rfl, rfl, by simp [clTo], by simpa [clTo] using OwnRows.nil (w.alloc (.cells #[.slice aS S.length cS, .slice aM M.length cM, .int .i64 L] 24)) w.heap.size, (Below.refl _ _).alloc (Nat.le_refl _) _, Row.new w #[.slice aS S.length cS, .slice aM M.length cM, .int .i64 L] 24⟩
  case round =>
    obtain ⟨k, A, c, hk, rfl, rfl, rfl, hown, hb, hbox⟩ := hrel
    have hsz := hb.size
    have hzb := hbox.lt
    have hc0 := hbox.cell 0
    have hc1 := hbox.cell 1
    have hc2 := hbox.cell 2
    simp only [List.getElem?_cons_succ, List.getElem?_cons_zero] at hc0 hc1 hc2
    have Hbox := Lib.hid hbox; clear hbox
    have hcl := clTo_len (fb M 2) (perOf (fb M 2) (4 * n)) (outB S) k
    have Hsucc := Lib.hid (clTo_succ (fb M 2) (perOf (fb M 2) (4 * n)) (outB S) k)
    generalize hst : clTo (fb M 2) (perOf (fb M 2) (4 * n)) (outB S) k = st at *
    have Hst := Lib.hid hst; clear hst
    have Hown := Lib.hid hown; clear hown
    by_cases hlt : k < 4 * n
    · have hpp := perOf_le (fb M 2) (4 * n) k (by omega)
      have Hper := Lib.hid (perOf_spec Hinj.out k hlt)
      have Hlst := Lib.hid (leastB_to (fb M 2) (perOf (fb M 2) (4 * n)) k)
      generalize perOf (fb M 2) (4 * n) k = p at *
      have HOut := Lib.hid (rout_any S aS cS k wr (by omega) (by omega) (HS.out.later hb))
      by_cases hout : outB S k = true
      · rw [hout] at HOut
        have Hwk := Lib.hid hout
        clear hout
        go_wp2_with (go_at_call 100; refine HOut.out.mono ?_; rintro e w' ⟨rfl, rfl⟩)
        refine (strand_any S M L n aS aM cS cM wr k p hn HL.out Hm.out hlt (HM.out.later hb) Hper.out hpp).mono ?_
        rintro e w2 ⟨A2, c2, rfl, hb2, hO2⟩
        have hb2' := below_step hb hb2
        have hsz2 := hb2'.size
        have Hown2 := Lib.hid (Hown.out.later hb2 (Nat.le_refl _))
        have Hbox2 := Lib.hid (Hbox.out.later hb2 hzb)
        have HO2 := Lib.hid (hO2.mono hsz)
        clear hO2 Hown hb2 hb Hbox hc0 hc1 hc2 HOut
        go_wp2_with fail
        go_loopg [7, 6] p (fun g i lv wi => ∃ j : Nat, j ≤ p ∧ g = p - j ∧ i = .int .i64 j ∧ lv = .bool (leastTo (fb M 2) k j) ∧ wi = w2)
        case atStart => exact ⟨0, Nat.zero_le _, rfl, rfl, rfl, rfl⟩
        case round =>
          obtain ⟨j, hj, rfl, rfl, rfl, rfl⟩ := hrel
          have hlen : (orb (fb M 2) k p).length = p := orb_length _ _ _
          by_cases hjl : j < p
          · obtain ⟨b, off, rfl, hB, hbl, hcell, _⟩ := HO2.out.open (by rw [ints_length, nats_length, hlen]; omega)
            have hcj := hcell j _ (ints_get _ _ (by rw [nats_length, hlen]; exact hjl))
            rw [nth_nats _ _ (by rw [hlen]; exact hjl), orb_getD _ _ _ _ hjl] at hcj
            have Hls := Lib.hid (leastTo_succ (fb M 2) k j)
            generalize iter (fb M 2) j k = x at *
            clear hcell hlen
            by_cases hls : leastTo (fb M 2) k j = true
            · have HLs : Hid (leastTo (fb M 2) k (j + 1) = decide (k ≤ x)) := Lib.hid (by rw [Hls.out, hls, Bool.true_and])
              rw [hls]
              clear hls
              go_wp2_with fail
              go_roundg (p - (j + 1))
              case measure => omega
              case rel => exact ⟨j + 1, by omega, rfl, by go_num, by rw [HLs.out], rfl⟩
            · have hls2 : leastTo (fb M 2) k j = false := by simpa using hls
              have HLs : Hid (leastTo (fb M 2) k (j + 1) = false) := Lib.hid (by rw [Hls.out, hls2, Bool.false_and])
              rw [hls2]
              clear hls hls2
              go_wp2_with fail
              go_roundg (p - (j + 1))
              case measure => omega
              case rel => exact ⟨j + 1, by omega, rfl, by go_num, by rw [HLs.out], rfl⟩
          · obtain rfl : j = p := by omega
            clear hlen
            rw [← Hlst.out]
            by_cases hls : leastB (fb M 2) (perOf (fb M 2) (4 * n)) k = true
            · have HE : Hid (clTo (fb M 2) (perOf (fb M 2) (4 * n)) (outB S) (k + 1) = st ++ [orb (fb M 2) k j]) := Lib.hid (by rw [Hsucc.out, if_pos (by rw [Hwk.out, Bool.true_and]; exact hls)])
              rw [hls]
              clear hls
              obtain ⟨vs, hvs, hro⟩ := Hown2.out
              have hvl := hro.1
              simp only [List.length_map] at hvl
              have hs3 : (nats (orb (fb M 2) k j)).length = j := by rw [nats_length, orb_length]
              have hsn := hro.snoc HO2.out
              rw [hs3] at hsn
              have Hvs := Lib.hid hvs
              have Hsn := Lib.hid hsn
              clear hsn hro hvs hs3
              go_wp2_with (with_reducible refine wpList_append_one rfl (.tmp 39) (.tmp 41) 30 rfl w.heap.size 22 i1 (.slice none 0 0) 24 Try.underlying30 hi1 hy0 hy1 hy2 rfl A _ c vs rfl hvl (Hvs.out.alloc _) _ 1 (.slice A2 j c2) rfl (by simp) rfl (by omega) (by omega) (by simp; omega) ?_; intro A3 c3 w3 hO3 hT3 hA3)
              have hb3 : Below w.heap.size w w3 := (hb2'.alloc (by omega) _).trans (hT3.below (by simp; omega) (fun y hy => (Hvs.out.lt hy).1))
              go_roundg (4 * n - (k + 1))
              case measure => omega
              case rel =>
                refine ⟨k + 1, A3, c3, by omega, rfl, by go_num, by rw [HE.out]; simp, ?_, hb3, (Hbox2.out.alloc _).turnedT (Hvs.out.alloc _) (by decide) hT3⟩
                rw [HE.out, List.map_append]
                exact ⟨_, hO3, (Hsn.out.alloc _).turned (Hvs.out.alloc _) (by decide) hT3⟩
            · have hls2 : leastB (fb M 2) (perOf (fb M 2) (4 * n)) k = false := by simpa using hls
              have HE : Hid (clTo (fb M 2) (perOf (fb M 2) (4 * n)) (outB S) (k + 1) = st) := Lib.hid (by rw [Hsucc.out, if_neg (by rw [Hwk.out, Bool.true_and]; exact hls)])
              rw [hls2]
              clear hls hls2
              go_wp2_with fail
              go_roundg (4 * n - (k + 1))
              case measure => omega
              case rel => exact ⟨k + 1, A, c, by omega, rfl, by go_num, by rw [HE.out], by rw [HE.out]; exact Hown2.out, hb2', Hbox2.out⟩
      · have hout2 : outB S k = false := by simpa using hout
        rw [hout2] at HOut
        have HE : Hid (clTo (fb M 2) (perOf (fb M 2) (4 * n)) (outB S) (k + 1) = st) := Lib.hid (by rw [Hsucc.out, hout2, Bool.false_and]; rfl)
        clear hout hout2
        go_wp2_with (go_at_call 100; refine HOut.out.mono ?_; rintro e w' ⟨rfl, rfl⟩)
        go_roundg (4 * n - (k + 1))
        case measure => omega
        case rel => exact ⟨k + 1, A, c, by omega, rfl, by go_num, by rw [HE.out], by rw [HE.out]; exact Hown.out, hb, Hbox.out⟩
    · obtain rfl : k = 4 * n := by omega
      go_wp2_with fail
      go_ret
      rw [Hst.out]
      exact ⟨A, c, rfl, hb, Hown.out⟩
end Go.Proofs.Ytkopbcehfbmnmaa
