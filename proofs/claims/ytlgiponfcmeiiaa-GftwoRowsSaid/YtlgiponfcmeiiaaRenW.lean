/- The walk of gftwo.renamed: the columns in another order. -/
import Derived.Test.YtlgiponfcmeiiaaSortW
import Derived.Test.YtlgiponfcmeiiaaRenP
namespace Go.Proofs.Ytlgiponfcmeiiaa
open Go Go.RowKit
set_option maxRecDepth 100000 in
set_option maxHeartbeats 8000000 in
theorem renamed_any (C : Nat) (xs : List Nat) (hx : ∀ x ∈ xs, x < 2 ^ C) (hC : C ≤ 65536) (hR : xs.length ≤ 1000000) (a : Option Addr) (c : Nat) (w : World) (hT : TabAt w a (tabN C xs)) :
    Calls Try.prog 26 #[.agg #[.int .i64 (C : Int), .slice a xs.length c]] w fun e w' => ∃ (p : Nat → Nat) (A : Option Addr) (E : Nat), (∀ i, i < C → p i < C) ∧ (∀ i k, i < C → k < C → p i = p k → i = k) ∧ e = .returned (.slice A xs.length E) ∧ TabAt w' A (tabN C (xs.map (lin (fun i => 2 ^ p i) C))) ∧ Below w.heap.size w w' := by
  have hmk := run_mk1 (T := 36) (z := .int .i64 0) (bytes := 8) Try.underlying36 Try.info3 rfl C C (Nat.le_refl _) (by omega) (by omega)
  obtain ⟨W, hW⟩ : ∃ W, W = w.alloc (.cells #[.int .i64 (C : Int), .slice a xs.length c] 26) := ⟨_, rfl⟩
  have h0 : HH w W [(w.heap.size, rowO 26 [.int .i64 (C : Int), .slice a xs.length c])] [] := by rw [hW]; exact (HH.start w).alloc #[.int .i64 (C : Int), .slice a xs.length c] 26 rfl rfl
  have H0 := Lib.hid h0
  have HT := Lib.hid hT
  have Hx := Lib.hid hx
  clear h0 hT hx
  go_enter Try.func26, Try.ntmps26
  go_upto_region 1 with fail
  rw [← hW]
  clear hW
  have hc0 := H0.out.cell (k := 0) (i := 0) rfl rfl
  have hc1 : ∀ o1, (W.alloc o1).cell? ⟨w.heap.size, 0, none⟩ = some (.int .i64 (C : Int)) := fun o1 => (H0.out.call ((Below.refl _ _).alloc (Nat.le_refl _) o1)).cell (k := 0) (i := 0) rfl rfl
  have hc2 : ∀ o1 o2, ((W.alloc o1).alloc o2).cell? ⟨w.heap.size, 0, none⟩ = some (.int .i64 (C : Int)) := fun o1 o2 => (H0.out.call (((Below.refl _ _).alloc (Nat.le_refl _) o1).alloc (by simp) o2)).cell (k := 0) (i := 0) rfl rfl
  have hc3 : ∀ o1 o2 o3, (((W.alloc o1).alloc o2).alloc o3).cell? ⟨w.heap.size, 0, none⟩ = some (.int .i64 (C : Int)) := fun o1 o2 o3 => (H0.out.call ((((Below.refl _ _).alloc (Nat.le_refl _) o1).alloc (by simp) o2).alloc (by simp; omega) o3)).cell (k := 0) (i := 0) rfl rfl
  go_cut [3, 4, 5] (fun s3 s4 s5 wx => ∃ (p o q r : Nat), s3 = .pointer (some ⟨p, 0, none⟩) ∧ s4 = .slice (some ⟨q, 0, none⟩) C C ∧ s5 = .slice (some ⟨r, 0, none⟩) C C ∧ HH w wx [(w.heap.size, rowO 26 [.int .i64 (C : Int), .slice a xs.length c]), (p, rowO 36 [.slice (some ⟨o, 0, none⟩) C C]), (o, rowO 3 (ints (List.replicate C 0))), (q, rowO 3 (ints (List.replicate C 0))), (r, rowO 3 (ints (List.replicate C 0)))] [])
  case first =>
    have hz : rowO 3 (ints (List.replicate C 0)) (.cells (Array.replicate C (.int .i64 0)) 3 (0, 0)) := by unfold rowO; rw [← replicate_ints]
    have hbx : ∀ s : Value, rowO 36 [s] (.cells #[s] 36 (0, 0)) := fun _ => rfl
    go_region
    all_goals (go_wp2_with fail; go_meet)
    · exact ⟨_, _, _, _, rfl, rfl, rfl, HH.four H0.out _ _ _ _ 3 0 1 2 (by decide) rfl rfl rfl rfl (hbx _) hz hz hz⟩
    · exact ⟨_, _, _, _, rfl, rfl, rfl, HH.four H0.out _ _ _ _ 2 0 1 3 (by decide) rfl rfl rfl rfl (hbx _) hz hz hz⟩
    · exact ⟨_, _, _, _, rfl, rfl, rfl, HH.four H0.out _ _ _ _ 3 0 2 1 (by decide) rfl rfl rfl rfl (hbx _) hz hz hz⟩
    · exact ⟨_, _, _, _, rfl, rfl, rfl, HH.four H0.out _ _ _ _ 2 0 3 1 (by decide) rfl rfl rfl rfl (hbx _) hz hz hz⟩
    · exact ⟨_, _, _, _, rfl, rfl, rfl, HH.four H0.out _ _ _ _ 1 0 2 3 (by decide) rfl rfl rfl rfl (hbx _) hz hz hz⟩
    · exact ⟨_, _, _, _, rfl, rfl, rfl, HH.four H0.out _ _ _ _ 1 0 3 2 (by decide) rfl rfl rfl rfl (hbx _) hz hz hz⟩
    · exact ⟨_, _, _, _, rfl, rfl, rfl, HH.four H0.out _ _ _ _ 3 1 0 2 (by decide) rfl rfl rfl rfl (hbx _) hz hz hz⟩
    · exact ⟨_, _, _, _, rfl, rfl, rfl, HH.four H0.out _ _ _ _ 2 1 0 3 (by decide) rfl rfl rfl rfl (hbx _) hz hz hz⟩
    · exact ⟨_, _, _, _, rfl, rfl, rfl, HH.four H0.out _ _ _ _ 3 2 0 1 (by decide) rfl rfl rfl rfl (hbx _) hz hz hz⟩
    · exact ⟨_, _, _, _, rfl, rfl, rfl, HH.four H0.out _ _ _ _ 2 3 0 1 (by decide) rfl rfl rfl rfl (hbx _) hz hz hz⟩
    · exact ⟨_, _, _, _, rfl, rfl, rfl, HH.four H0.out _ _ _ _ 1 2 0 3 (by decide) rfl rfl rfl rfl (hbx _) hz hz hz⟩
    · exact ⟨_, _, _, _, rfl, rfl, rfl, HH.four H0.out _ _ _ _ 1 3 0 2 (by decide) rfl rfl rfl rfl (hbx _) hz hz hz⟩
    · exact ⟨_, _, _, _, rfl, rfl, rfl, HH.four H0.out _ _ _ _ 3 1 2 0 (by decide) rfl rfl rfl rfl (hbx _) hz hz hz⟩
    · exact ⟨_, _, _, _, rfl, rfl, rfl, HH.four H0.out _ _ _ _ 2 1 3 0 (by decide) rfl rfl rfl rfl (hbx _) hz hz hz⟩
    · exact ⟨_, _, _, _, rfl, rfl, rfl, HH.four H0.out _ _ _ _ 3 2 1 0 (by decide) rfl rfl rfl rfl (hbx _) hz hz hz⟩
    · exact ⟨_, _, _, _, rfl, rfl, rfl, HH.four H0.out _ _ _ _ 2 3 1 0 (by decide) rfl rfl rfl rfl (hbx _) hz hz hz⟩
    · exact ⟨_, _, _, _, rfl, rfl, rfl, HH.four H0.out _ _ _ _ 1 2 3 0 (by decide) rfl rfl rfl rfl (hbx _) hz hz hz⟩
    · exact ⟨_, _, _, _, rfl, rfl, rfl, HH.four H0.out _ _ _ _ 1 3 2 0 (by decide) rfl rfl rfl rfl (hbx _) hz hz hz⟩
    · exact ⟨_, _, _, _, rfl, rfl, rfl, HH.four H0.out _ _ _ _ 0 1 2 3 (by decide) rfl rfl rfl rfl (hbx _) hz hz hz⟩
    · exact ⟨_, _, _, _, rfl, rfl, rfl, HH.four H0.out _ _ _ _ 0 1 3 2 (by decide) rfl rfl rfl rfl (hbx _) hz hz hz⟩
    · exact ⟨_, _, _, _, rfl, rfl, rfl, HH.four H0.out _ _ _ _ 0 2 1 3 (by decide) rfl rfl rfl rfl (hbx _) hz hz hz⟩
    · exact ⟨_, _, _, _, rfl, rfl, rfl, HH.four H0.out _ _ _ _ 0 3 1 2 (by decide) rfl rfl rfl rfl (hbx _) hz hz hz⟩
    · exact ⟨_, _, _, _, rfl, rfl, rfl, HH.four H0.out _ _ _ _ 0 2 3 1 (by decide) rfl rfl rfl rfl (hbx _) hz hz hz⟩
    · exact ⟨_, _, _, _, rfl, rfl, rfl, HH.four H0.out _ _ _ _ 0 3 2 1 (by decide) rfl rfl rfl rfl (hbx _) hz hz hz⟩
  case rest =>
  obtain ⟨p, o, q, r, rfl, rfl, rfl, hh⟩ := hcut
  have H1 := Lib.hid hh
  clear hh hc0 hc1 hc2 hc3 hmk H0
  have hb1 := H1.out.cell (k := 0) (i := 1) rfl rfl
  go_wp2_with fail
  go_loopg [30] xs.length (fun g v wr => ∃ (k : Nat) (us : List Int), k ≤ xs.length ∧ g = xs.length - k ∧ v = .int .i64 k ∧ us.length = C ∧ HH w wr [(w.heap.size, rowO 26 [.int .i64 (C : Int), .slice a xs.length c]), (p, rowO 36 [.slice (some ⟨o, 0, none⟩) C C]), (o, rowO 3 (ints us)), (q, rowO 3 (ints (List.replicate C 0))), (r, rowO 3 (ints (List.replicate C 0)))] [])
  case atStart => exact ⟨0, (List.replicate C 0), Nat.zero_le _, rfl, rfl, by simp, H1.out⟩
  case round =>
    obtain ⟨k, us, hk, rfl, rfl, hus, hh⟩ := hrel
    have Hr := Lib.hid hh
    have Hus := Lib.hid hus
    clear hh H1 hb1 hus
    by_cases hkl : k < xs.length
    · obtain ⟨b1, o1, a', c', rfl, _, hrow⟩ := HT.out.rowAt (tabN_get hkl)
      have hc1 := (hrow wr Hr.out.below).1
      have HI : Hid (∀ W', Below w.heap.size w W' → IntsAt W' a' (rowOf C (xs.getD k 0))) := Lib.hid fun W' h => (hrow W' h).2
      have HL : Hid (∀ j, j < (rowOf C (xs.getD k 0)).length → 0 ≤ nth (rowOf C (xs.getD k 0)) j ∧ nth (rowOf C (xs.getD k 0)) j < C) := Lib.hid fun j hj => (rowOf_asc C _).2 _ (nth_mem _ _ hj)
      have hrl : (rowOf C (xs.getD k 0)).length ≤ 65536 := Nat.le_trans (rowOf_len _ _) hC
      clear hrow
      generalize rowOf C (xs.getD k 0) = row at *
      go_wp2_with fail
      go_loopg [36] row.length (fun g v wr => ∃ (j : Nat) (us : List Int), j ≤ row.length ∧ g = row.length - j ∧ v = .int .i64 j ∧ us.length = C ∧ HH w wr [(w.heap.size, rowO 26 [.int .i64 (C : Int), .slice (some ⟨b1, o1, none⟩) xs.length c]), (p, rowO 36 [.slice (some ⟨o, 0, none⟩) C C]), (o, rowO 3 (ints us)), (q, rowO 3 (ints (List.replicate C 0))), (r, rowO 3 (ints (List.replicate C 0)))] [])
      case atStart => exact ⟨0, us, Nat.zero_le _, rfl, rfl, Hus.out, Hr.out⟩
      case round =>
        obtain ⟨j, us, hj, rfl, rfl, hus, hh⟩ := hrel
        have Hs := Lib.hid hh
        have Hus := Lib.hid hus
        clear hh hus
        by_cases hjl : j < row.length
        · obtain ⟨b2, o2, rfl, _, hcR⟩ := (HI.out wr Hs.out.below).open (by omega)
          have hcx := hcR j hjl
          obtain ⟨hx0, hx1⟩ := HL.out j hjl
          obtain ⟨cc, hcc⟩ : ∃ cc : Nat, nth row j = (cc : Int) := ⟨(nth row j).toNat, by omega⟩
          rw [hcc] at hcx hx1
          have hcC : cc < C := by omega
          have hp := Hs.out.cell (k := 1) (i := 0) rfl rfl
          have hov := Hs.out.int (k := 2) rfl cc (by rw [Hus.out]; exact hcC)
          have hof := Hs.out.frozen (k := 2) rfl cc
          generalize nth us cc = u at *
          have HN : Hid (∀ v : Int, HH w (wr.setCell ⟨o, cc, none⟩ (.int .i64 v)) [(w.heap.size, rowO 26 [.int .i64 (C : Int), .slice (some ⟨b1, o1, none⟩) xs.length c]), (p, rowO 36 [.slice (some ⟨o, 0, none⟩) C C]), (o, rowO 3 (ints (us.set cc v))), (q, rowO 3 (ints (List.replicate C 0))), (r, rowO 3 (ints (List.replicate C 0)))] []) := Lib.hid fun v => Hs.out.setInt (k := 2) rfl cc v
          clear hcR hcc hx0 hx1
          go_wp2_with fail
          go_roundg (row.length - (j + 1))
          case measure => omega
          case rel => exact ⟨j + 1, us.set cc (wrap64 (u + 1)), by omega, rfl, by go_num, by rw [List.length_set]; exact Hus.out, HN.out _⟩
        · obtain rfl : j = row.length := by omega
          go_wp2_with fail
          go_roundg (xs.length - (k + 1))
          case measure => omega
          case rel => exact ⟨k + 1, us, by omega, rfl, by go_num, Hus.out, Hs.out⟩
    · obtain rfl : k = xs.length := by omega
      go_wp2_with fail
      go_loopg [50] C (fun g v wr => ∃ (k : Nat), k ≤ C ∧ g = C - k ∧ v = .int .i64 k ∧ HH w wr [(w.heap.size, rowO 26 [.int .i64 (C : Int), .slice a xs.length c]), (p, rowO 36 [.slice (some ⟨o, 0, none⟩) C C]), (o, rowO 3 (ints us)), (q, rowO 3 (ints (ordL C k))), (r, rowO 3 (ints (List.replicate C 0)))] [])
      case atStart => exact ⟨0, Nat.zero_le _, rfl, rfl, by rw [← ordL_zero]; exact Hr.out⟩
      case round =>
        obtain ⟨k, hk, rfl, rfl, hh⟩ := hrel
        have Hs := Lib.hid hh
        clear hh Hr
        by_cases hkC : k < C
        · obtain ⟨v0, hv0⟩ : ∃ v0, v0 = nth (ordL C k) k := ⟨_, rfl⟩
          have hcl := Hs.out.int (k := 3) rfl k (by rw [ordL_len]; exact hkC)
          rw [← hv0] at hcl
          have hfr := Hs.out.frozen (k := 3) rfl k
          have HN := Lib.hid (Hs.out.setInt (k := 3) rfl k (k : Int))
          rw [ordL_set hkC] at HN
          clear Hs hv0
          go_wp2_with fail
          go_roundg (C - (k + 1))
          case measure => omega
          case rel => exact ⟨k + 1, by omega, rfl, by go_num, HN.out⟩
        · obtain rfl : k = C := by omega
          rw [ordL_all] at Hs
          have HSO : Hid (SC.Ok ⟨wr, p, o, q, k, us, iota k⟩) := Lib.hid ⟨Hus.out, iota_len k, fun x hx => iota_mem.1 hx, by show k ≤ 1000000; omega, Hs.out.ne (j := 1) (k := 3) rfl rfl (by decide), Hs.out.ne (j := 2) (k := 3) rfl rfl (by decide)⟩
          have HSA : Hid (SC.At ⟨wr, p, o, q, k, us, iota k⟩ wr (iota k)) := Lib.hid ⟨Hs.out.row (k := 1) rfl, Hs.out.row (k := 2) rfl, Hs.out.row (k := 3) rfl, ⟨rfl, rfl, rfl, Nat.le_refl _, fun _ _ _ => rfl⟩, List.Perm.refl _⟩
          have HC := Lib.hid (sstable_any ⟨wr, p, o, q, k, us, iota k⟩ HSO.out wr (iota k) HSA.out)
          clear HSO HSA
          go_wp2_with fail
          refine HC.out.mono ?_
          rintro e w2 ⟨rfl, ys, hys⟩
          have H2 : Hid (HH w w2 [(w.heap.size, rowO 26 [.int .i64 (k : Int), .slice a xs.length c]), (p, rowO 36 [.slice (some ⟨o, 0, none⟩) k k]), (o, rowO 3 (ints us)), (q, rowO 3 (ints ys)), (r, rowO 3 (ints (List.replicate k 0)))] []) := Lib.hid (Hs.out.turn (k := 3) rfl hys.tu hys.rb rfl)
          have Hp : Hid (ys.Perm (iota k)) := Lib.hid hys.pm
          have Hyl : Hid (ys.length = k) := Lib.hid (by rw [hys.pm.length_eq]; exact iota_len k)
          clear hys HC Hs
          go_wp2_with fail
          go_loopg [63] k (fun g v wr => ∃ (i : Nat) (vs : List Int), i ≤ k ∧ g = k - i ∧ v = .int .i64 i ∧ vs.length = k ∧ (∀ j, j < i → nth vs (nth ys j).toNat = j) ∧ HH w wr [(w.heap.size, rowO 26 [.int .i64 (k : Int), .slice a xs.length c]), (p, rowO 36 [.slice (some ⟨o, 0, none⟩) k k]), (o, rowO 3 (ints us)), (q, rowO 3 (ints ys)), (r, rowO 3 (ints vs))] [])
          case atStart => exact ⟨0, List.replicate k 0, Nat.zero_le _, rfl, rfl, by simp, fun j h => absurd h (Nat.not_lt_zero j), H2.out⟩
          case round =>
            obtain ⟨i, vs, hi, rfl, rfl, hvl, hvs, hh⟩ := hrel
            have Hs := Lib.hid hh
            have Hvl := Lib.hid hvl
            have Hvs := Lib.hid hvs
            clear hh hvl hvs H2
            by_cases hik : i < k
            · obtain ⟨h1, h2⟩ := iota_mem.1 (Hp.out.mem_iff.1 (nth_mem ys i (by rw [Hyl.out]; exact hik)))
              have HN0 := Lib.hid (names_step Hp.out Hvl.out hik Hvs.out)
              have hcl := Hs.out.int (k := 3) rfl i (by rw [Hyl.out]; exact hik)
              obtain ⟨cc, hcc⟩ : ∃ cc : Nat, nth ys i = (cc : Int) := ⟨(nth ys i).toNat, by omega⟩
              rw [hcc] at hcl h2
              rw [hcc, Int.toNat_natCast] at HN0
              have hck : cc < k := by omega
              obtain ⟨v0, hv0⟩ : ∃ v0, v0 = nth vs cc := ⟨_, rfl⟩
              have hcv := Hs.out.int (k := 4) rfl cc (by rw [Hvl.out]; exact hck)
              rw [← hv0] at hcv
              have hfv := Hs.out.frozen (k := 4) rfl cc
              have HN := Lib.hid (Hs.out.setInt (k := 4) rfl cc (i : Int))
              clear Hs hv0 hcc h1 h2 Hvs
              go_wp2_with fail
              go_roundg (k - (i + 1))
              case measure => omega
              case rel => exact ⟨i + 1, vs.set cc (i : Int), by omega, rfl, by go_num, by rw [List.length_set]; exact Hvl.out, HN0.out, HN.out⟩
            · obtain rfl : i = k := by omega
              obtain ⟨P, hP1, hP2, hP3⟩ := order_names Hp.out Hvs.out
              have HP := Lib.hid (And.intro hP1 (And.intro hP2 hP3))
              clear hP1 hP2 hP3 Hvs Hp Hyl
              have hmk2 := run_mk1 (T := 22) (z := .slice none 0 0) (bytes := 24) Try.underlying22 Try.info36 rfl xs.length xs.length (Nat.le_refl _) (by decide) (by omega)
              have hcb := Hs.out.cell (k := 0) (i := 1) rfl rfl
              have HA := Lib.hid (Hs.out.alloc (Array.replicate xs.length (.slice none 0 0)) 36 rfl (vs := valsR [] xs.length) (by rw [Array.toList_replicate]; exact valsR_zero _))
              clear Hs
              have hcb2 := HA.out.cell (k := 0) (i := 1) rfl rfl
              go_wp2_with fail
              generalize wr.heap.size = t at *
              clear hcb hcb2 hmk2
              go_loopg [80] xs.length (fun g v wr => ∃ (n : Nat) (done : List SlO), done.length = n ∧ n ≤ xs.length ∧ g = xs.length - n ∧ v = .int .i64 n ∧ HH w wr [(w.heap.size, rowO 26 [.int .i64 (i : Int), .slice a xs.length c]), (p, rowO 36 [.slice (some ⟨o, 0, none⟩) i i]), (o, rowO 3 (ints us)), (q, rowO 3 (ints ys)), (r, rowO 3 (ints vs)), (t, rowO 36 (valsR done xs.length))] done ∧ ∀ (m : Nat) (d : SlO), done[m]? = some d → d.E = 3 ∧ d.vs = ints ((tabN i (xs.map (lin (fun i => 2 ^ P i) i))).getD m []))
              case atStart => exact ⟨0, [], rfl, Nat.zero_le _, rfl, rfl, HA.out, fun m d h => by simp at h⟩
              case round =>
                obtain ⟨n, done, rfl, hn, rfl, rfl, hh, hd⟩ := hrel
                have Hs := Lib.hid hh
                have Hd := Lib.hid hd
                clear hh hd HA
                by_cases hnl : done.length < xs.length
                · obtain ⟨b1, o1, a', c', rfl, _, hrow⟩ := HT.out.rowAt (tabN_get hnl)
                  have hc1 := (hrow wr Hs.out.below).1
                  have HI : Hid (∀ W', Below w.heap.size w W' → IntsAt W' a' (rowOf i (xs.getD done.length 0))) := Lib.hid fun W' h => (hrow W' h).2
                  have HL : Hid (∀ j, j < (rowOf i (xs.getD done.length 0)).length → 0 ≤ nth (rowOf i (xs.getD done.length 0)) j ∧ nth (rowOf i (xs.getD done.length 0)) j < i) := Lib.hid fun j hj => (rowOf_asc i _).2 _ (nth_mem _ _ hj)
                  have hrl : (rowOf i (xs.getD done.length 0)).length ≤ 65536 := Nat.le_trans (rowOf_len _ _) hC
                  have Hsrt : Hid (srt (renL vs (rowOf i (xs.getD done.length 0))) = (tabN i (xs.map (lin (fun i => 2 ^ P i) i))).getD done.length []) := Lib.hid (by
                    rw [srt_ren HP.out.1 HP.out.2.1 HP.out.2.2, tabN_getD (by rw [List.length_map]; exact hnl), map_getD _ hnl])
                  rw [valsR_open hnl] at Hs
                  have HS := Lib.hid (Hs.out.addNil 3)
                  clear hrow Hs
                  generalize rowOf i (xs.getD done.length 0) = row at *
                  go_wp2_with fail
                  go_loopg [87] row.length (fun g v wr => ∃ (j : Nat) (A : Option Addr) (E : Nat), j ≤ row.length ∧ g = row.length - j ∧ v = .int .i64 j ∧ HH w wr [(w.heap.size, rowO 26 [.int .i64 (i : Int), .slice (some ⟨b1, o1, none⟩) xs.length c]), (p, rowO 36 [.slice (some ⟨o, 0, none⟩) i i]), (o, rowO 3 (ints us)), (q, rowO 3 (ints ys)), (r, rowO 3 (ints vs)), (t, rowO 36 (valsC done xs.length (.slice A j E)))] (done ++ [⟨A, E, 3, ints (renL vs (row.take j))⟩]))
                  case atStart => exact ⟨0, none, 0, Nat.zero_le _, rfl, rfl, HS.out⟩
                  case round =>
                    obtain ⟨j, A, E, hj, rfl, rfl, hh⟩ := hrel
                    have Hr := Lib.hid hh
                    clear hh HS
                    by_cases hjl : j < row.length
                    · obtain ⟨b2, o2, rfl, _, hcR⟩ := (HI.out wr Hr.out.below).open (by omega)
                      have hcx := hcR j hjl
                      obtain ⟨hx0, hx1⟩ := HL.out j hjl
                      have Hsn := Lib.hid (renL_snoc vs row j hjl)
                      obtain ⟨cc, hcc⟩ : ∃ cc : Nat, nth row j = (cc : Int) := ⟨(nth row j).toNat, by omega⟩
                      rw [hcc] at hcx hx1
                      rw [hcc, Int.toNat_natCast] at Hsn
                      have hcC : cc < i := by omega
                      have Hn1 : Hid ((ints (renL vs (row.take j))).length = j) := Lib.hid (by rw [ints_length, renL, List.length_map, List.length_take]; omega)
                      obtain ⟨i0, hi, hz0, hz1, hz2⟩ := info_parts Try.info3
                      obtain ⟨u, hu⟩ : ∃ u, u = nth vs cc := ⟨_, rfl⟩
                      rw [← hu] at Hsn
                      have Hdr := Lib.hid Hr.out.drew
                      have hX0 := Hdr.out.cell (k := 5) (i := done.length) rfl (valsC_get _ _ _)
                      have hX1 := Hdr.out.int (k := 4) rfl cc (by rw [Hvl.out]; exact hcC)
                      rw [← hu] at hX1
                      clear hcR hcc hx0 hx1
                      generalize renL vs (row.take j) = zs at *
                      have Ha := Lib.hid ((Hr.out.call ((Below.refl _ _).alloc (Nat.le_refl _) (.cells #[.int .i64 u] 3))).drew)
                      have Hc1 : Hid ((wr.alloc (.cells #[.int .i64 u] 3)).drew.cell? ⟨wr.heap.size, 0, none⟩ = some (.int .i64 u)) := Lib.hid ((Row.new wr #[.int .i64 u] 3).cell 0)
                      have Hl1 : Hid (w.heap.size ≤ (wr.alloc (.cells #[.int .i64 u] 3)).drew.heap.size) := Lib.hid Ha.out.below.size
                      have hZ0 := Ha.out.cell (k := 5) (i := done.length) rfl (valsC_get _ _ _)
                      have hZ1 := Ha.out.int (k := 4) rfl cc (by rw [Hvl.out]; exact hcC)
                      rw [← hu] at hZ1
                      clear hu
                      have hjj : j ≤ 65536 := by omega
                      clear Hdr
                      go_wp2_with fail
                      go_region_law ((refine step_append_one rfl (.tmp 96) (.tmp 101) rfl w.heap.size i0 hi hz0 hz1 hz2 A j E (ints zs) rfl Hn1.out (Ha.out.sl (nthO_last _ _)) ⟨wr.heap.size, 0, none⟩ 1 (.int .i64 u) rfl Hc1.out rfl (by omega) Hl1.out ?_); intro A2 e2 w2 hO2 hT2 hA2; have H2 := Ha.out.grow (nthO_last _ _) hO2 hT2 hA2; have hd := H2.cell (k := 5) (i := done.length) rfl (valsC_get _ _ _); have hf := H2.frozen (k := 5) rfl done.length; have H3 := Lib.hid (H2.set (k := 5) rfl done.length (.slice A2 (j + 1) e2)); clear H2 hO2 hT2 hA2 hX0 hX1 hZ0 hZ1)
                      all_goals
                        have H4 : Hid (HH w (w2.setCell ⟨t, done.length, none⟩ (.slice A2 (j + 1) e2)) [(w.heap.size, rowO 26 [.int .i64 (i : Int), .slice (some ⟨b1, o1, none⟩) xs.length c]), (p, rowO 36 [.slice (some ⟨o, 0, none⟩) i i]), (o, rowO 3 (ints us)), (q, rowO 3 (ints ys)), (r, rowO 3 (ints vs)), (t, rowO 36 (valsC done xs.length (.slice A2 (j + 1) e2)))] (done ++ [⟨A2, e2, 3, ints (zs ++ [u])⟩])) := Lib.hid (by
                          have h := H3.out
                          rw [setO_last, valsC_set, ints_snoc] at h
                          exact h)
                        clear H3 hd hf
                        go_wp2_with fail
                        go_roundg (row.length - (j + 1))
                        case measure => omega
                        case rel => exact ⟨j + 1, A2, e2, by omega, rfl, by go_num, by rw [Hsn.out]; exact H4.out⟩
                    · obtain rfl : j = row.length := by omega
                      have hX0 := Hr.out.cell (k := 5) (i := done.length) rfl (valsC_get _ _ _)
                      rw [List.take_length] at Hr
                      have hrn : (renL vs row).length = row.length := by rw [renL, List.length_map]
                      have HC := Lib.hid (sort_own (renL vs row) A E w.heap.size wr (Hr.out.sl (nthO_last _ _)) (by omega))
                      rw [hrn] at HC
                      have Hrn := Lib.hid hrn
                      clear hrn
                      go_wp2_with fail
                      refine HC.out.mono ?_
                      rintro e w4 ⟨rfl, ho4, ht4⟩
                      have h4 := Hr.out.turnSl (nthO_last _ _) ho4 ht4
                      rw [setO_last, Hsrt.out] at h4
                      have Hln : Hid ((ints ((tabN i (xs.map (lin (fun i => 2 ^ P i) i))).getD done.length [])).length = row.length) := Lib.hid (by rw [ints_length, ← Hsrt.out, srt_len, Hrn.out])
                      have hv : valsC done xs.length (.slice A row.length E) = valsR (done ++ [⟨A, E, 3, ints ((tabN i (xs.map (lin (fun i => 2 ^ P i) i))).getD done.length [])⟩]) xs.length := by
                        rw [← valsR_snoc]
                        unfold slV
                        rw [Hln.out]
                      rw [hv] at h4
                      have H4 := Lib.hid h4
                      clear h4 hv ho4 ht4 HC Hr hX0
                      go_wp2_with fail
                      go_roundg (xs.length - (done.length + 1))
                      case measure => omega
                      case rel =>
                        refine ⟨done.length + 1, _, by simp, by omega, rfl, by go_num, H4.out, fun m d h => ?_⟩
                        rcases Nat.lt_or_ge m done.length with g | g
                        · rw [List.getElem?_append_left g] at h
                          exact Hd.out m d h
                        · rw [List.getElem?_append_right g] at h
                          cases hm : m - done.length with
                          | zero =>
                            rw [hm] at h
                            cases h
                            rw [show m = done.length by omega]
                            exact ⟨rfl, rfl⟩
                          | succ m' => rw [hm] at h; simp at h
                · have hdn : done.length = xs.length := by omega
                  have Hdn := Lib.hid hdn
                  have HF : Hid (TabAt wr (some ⟨t, 0, none⟩) (tabN i (xs.map (lin (fun i => 2 ^ P i) i)))) := Lib.hid (by
                    have hrow := Hs.out.row (k := 5) rfl
                    have hv : valsR done xs.length = done.map slV := by unfold valsR; rw [Hdn.out, Nat.sub_self]; simp
                    rw [hv] at hrow
                    exact (rowsAt_of Hs.out (by rw [tabN_len, List.length_map]; exact Hdn.out) Hd.out).tab hrow.at)
                  have Hb := Lib.hid Hs.out.below
                  clear hdn
                  go_wp2_with fail
                  go_ret
                  exact ⟨P, _, _, HP.out.1, HP.out.2.1, rfl, HF.out, Hb.out⟩
end Go.Proofs.Ytlgiponfcmeiiaa
