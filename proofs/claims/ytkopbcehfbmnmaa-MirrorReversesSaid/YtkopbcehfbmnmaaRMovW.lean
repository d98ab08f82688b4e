/- The walk of the reference's move. -/
import Derived.Test.YtkopbcehfbmnmaaMoveW
import Derived.Test.YtkopbcehfbmnmaaHeap
namespace Go.Proofs.Ytkopbcehfbmnmaa
open Go Go.RowKit
/-- The table of a map, its first k entries. -/
def tbTo (σ : Nat → Nat) (N : Nat) : Nat → List Int
  | 0 => List.replicate N 0
  | k + 1 => (tbTo σ N k).set k ((σ k : Nat) : Int)
theorem tbTo_len (σ : Nat → Nat) (N k : Nat) : (tbTo σ N k).length = N := by
  induction k with
  | zero => simp [tbTo]
  | succ k ih => simp [tbTo, ih]
theorem tbTo_nth (σ : Nat → Nat) (N : Nat) : ∀ k, k ≤ N → ∀ x, x < k → nth (tbTo σ N k) x = ((σ x : Nat) : Int) := by
  intro k
  induction k with
  | zero => intro _ x hx; omega
  | succ k ih =>
    intro hk x hx
    rw [tbTo, nth_set _ _ _ _ (by rw [tbTo_len]; omega)]
    by_cases h : k = x
    · rw [if_pos h, h]
    · rw [if_neg h]; exact ih (by omega) x (by omega)
/-- The reference's new place: turned, flipped. -/
def rturn (T : List Int) (x : Nat) : Nat := trn (nth T) x
def rflip (T : List Int) (x : Nat) : Nat := 4 * (x / 4) + (nth T (x / 4) - ((x % 4 : Nat) : Int) + 8).toNat % 4
theorem mod_twice (x : Int) (h0 : -8 ≤ x) (h1 : x ≤ 8) : -3 ≤ x.tmod 4 ∧ x.tmod 4 ≤ 3 ∧ (x.tmod 4 + 4).tmod 4 = (((x + 8).toNat % 4 : Nat) : Int) := by
  obtain ⟨k, hk, rfl⟩ : ∃ k : Nat, k < 17 ∧ x = (k : Int) - 8 := ⟨(x + 8).toNat, by omega, by omega⟩
  have : ∀ k : Nat, k < 17 → -3 ≤ ((k : Int) - 8).tmod 4 ∧ ((k : Int) - 8).tmod 4 ≤ 3 ∧ (((k : Int) - 8).tmod 4 + 4).tmod 4 = (((((k : Int) - 8) + 8).toNat % 4 : Nat) : Int) := by decide
  exact this k hk
set_option maxRecDepth 100000 in
set_option maxHeartbeats 16000000 in
theorem rmove_turn (S M T : List Int) (L : Int) (aS aM aT : Option Addr) (cS cM cT n : Nat) (w : World) (hn : n ≤ 64) (hMl : M.length = 4 * n) (hTl : T.length = n) (hmt : ∀ x, x < 4 * n → mt M x < 4 * n ∧ nth M x = (mt M x : Int)) (hTb : ∀ c, c < n → -4 ≤ nth T c ∧ nth T c ≤ 4) (hM : IntsAt w aM M) (hT : IntsAt w aT T) :
    Calls Try.prog 119 #[.agg #[.slice aS S.length cS, .slice aM M.length cM, .int .i64 L], .slice aT T.length cT, .bool false] w fun e w' => ∃ b : Nat, e = .returned (.slice (some ⟨b, 0, none⟩) M.length M.length) ∧ Row w' b 3 (ints (mvL (rturn T) M)) ∧ Below w.heap.size w w' ∧ w.heap.size ≤ b := by
  obtain ⟨W, hW⟩ : ∃ W, W = (w.alloc (.cells #[.slice aS S.length cS, .slice aM M.length cM, .int .i64 L] 24)) := ⟨_, rfl⟩
  have h0 : HH w W [(w.heap.size, rowO 24 [.slice aS S.length cS, .slice aM M.length cM, .int .i64 L])] [] := by rw [hW]; exact ((HH.start w).alloc #[.slice aS S.length cS, .slice aM M.length cM, .int .i64 L] 24 rfl rfl)
  have H0 := Lib.hid h0
  have hmk := run_mk M.length (by omega)
  have HN := Lib.hid (And.intro hMl hTl)
  have Hmt := Lib.hid hmt
  have HTb := Lib.hid hTb
  have HMT := Lib.hid (And.intro hM hT)
  have hN0 : M.length ≤ 256 := by omega
  have hT0 : T.length ≤ 64 := by omega
  clear hMl hTl hmt hTb hM hT h0
  go_enter Try.func119, Try.ntmps119
  go_upto_region 1 with fail
  rw [← hW]
  clear hW
  have hc0_1 := H0.out.cell (k := 0) (i := 1) rfl rfl
  go_upto_region 3 with fail
  obtain ⟨v, hv⟩ : ∃ x, x = W.alloc (.cells (Array.replicate M.length (.int .i64 0)) 3) := ⟨_, rfl⟩
  rw [← hv]
  have h1 : HH w v [(w.heap.size, rowO 24 [.slice aS S.length cS, .slice aM M.length cM, .int .i64 L]), (W.heap.size, rowO 3 (ints (tbTo (rturn T) M.length 0)))] [] := by
    rw [hv]; exact H0.out.alloc _ 3 rfl (zeros_ints _)
  obtain ⟨bT, hbT⟩ : ∃ x, x = W.heap.size := ⟨_, rfl⟩
  rw [← hbT] at h1
  rw [← hbT]
  have HbT : Hid (w.heap.size ≤ bT) := Lib.hid (by rw [hbT]; exact H0.out.below.size)
  have H1 := Lib.hid h1
  clear hbT hv h1 H0 hc0_1
  go_wp2_with fail
  go_loopg [9] M.length (fun g t wr => ∃ h : Nat, h ≤ M.length ∧ g = M.length - h ∧ t = .int .i64 h ∧ HH w wr [(w.heap.size, rowO 24 [.slice aS S.length cS, .slice aM M.length cM, .int .i64 L]), (bT, rowO 3 (ints (tbTo (rturn T) M.length h)))] [])
  case atStart => exact ⟨0, Nat.zero_le _, rfl, rfl, H1.out⟩
  case round =>
    clear H1
    obtain ⟨h, hh, rfl, rfl, hk⟩ := hrel
    have Hk := Lib.hid hk
    clear hk
    by_cases hl : h < M.length
    · obtain ⟨c, hc⟩ : ∃ x, x = h / 4 := ⟨_, rfl⟩
      obtain ⟨s, hs⟩ : ∃ x, x = h % 4 := ⟨_, rfl⟩
      have hcT : c < T.length := by have := HN.out.1; have := HN.out.2; omega
      have hd1 : (h : Int) / 4 = (c : Int) := by omega
      have hd2 : (h : Int).tdiv 4 = (c : Int) := by rw [Int.tdiv_eq_ediv_of_nonneg (by omega)]; exact hd1
      have hd3 : (h : Int) % 4 = (s : Int) := by omega
      have hd4 : (h : Int).tmod 4 = (s : Int) := by rw [Int.tmod_eq_emod_of_nonneg (by omega)]; exact hd3
      have hs4 : s < 4 := by omega
      obtain ⟨b', o', rfl, _, hcell⟩ := (Hk.out.came HMT.out.2).open (by omega)
      have hct := hcell c hcT
      have htb := HTb.out c (by have := HN.out.2; omega)
      obtain ⟨t, ht⟩ : ∃ x, x = nth T c := ⟨_, rfl⟩
      rw [← ht] at hct htb
      obtain ⟨ht0, ht1⟩ := htb
      obtain ⟨hy0, hy1, hy2⟩ := mod_twice ((s : Int) + t) (by omega) (by omega)
      obtain ⟨q, hq⟩ : ∃ x, x = (rturn T) h := ⟨_, rfl⟩
      obtain ⟨y, hy⟩ : ∃ x, x = (((s : Int) + t) + 8).toNat % 4 := ⟨_, rfl⟩
      have hqy : q = 4 * c + y := by rw [hq, hy, ht, hc, hs]; rfl
      have hqi : ((h : Int) - (s : Int)) + (y : Int) = (q : Int) := by omega
      rw [← hy] at hy2
      have hy4 : y < 4 := by omega
      obtain ⟨z, hz⟩ : ∃ z, z = ((s : Int) + t).tmod 4 := ⟨_, rfl⟩
      rw [← hz] at hy0 hy1 hy2
      have hz2 := hz.symm
      have Hq := Lib.hid hq
      have hlt : (tbTo (rturn T) M.length h).length = M.length := tbTo_len _ _ _
      have hsz : q ≤ 1000 := by omega
      have hset := Lib.hid (Hk.out.setInt (k := 1) rfl h (q : Int))
      have hcell1 := Hk.out.int (k := 1) rfl h (by rw [hlt]; exact hl)
      have hfr1 := Hk.out.frozen (k := 1) rfl h
      have Hlt := Lib.hid hlt
      clear hlt hc hs ht hy hq hz hcell hqy
      go_wp2_with fail
      go_roundg (M.length - (h + 1))
      case measure => omega
      case rel => exact ⟨h + 1, by omega, rfl, by go_num, by rw [tbTo, ← Hq.out]; exact hset.out⟩
    · obtain rfl : h = M.length := by omega
      go_upto_region 11 with fail
      obtain ⟨v2, hv2⟩ : ∃ x, x = wr.alloc (.cells (Array.replicate M.length (.int .i64 0)) 3) := ⟨_, rfl⟩
      rw [← hv2]
      have h2 : HH w v2 [(w.heap.size, rowO 24 [.slice aS S.length cS, .slice aM M.length cM, .int .i64 L]), (bT, rowO 3 (ints (tbTo (rturn T) M.length M.length))), (wr.heap.size, rowO 3 (ints (mvTo (rturn T) M 0)))] [] := by
        rw [hv2]; exact Hk.out.alloc _ 3 rfl (zeros_ints _)
      obtain ⟨bO, hbO⟩ : ∃ x, x = wr.heap.size := ⟨_, rfl⟩
      rw [← hbO] at h2
      rw [← hbO]
      have HbO : Hid (w.heap.size ≤ bO) := Lib.hid (by rw [hbO]; exact Hk.out.below.size)
      have H2 := Lib.hid h2
      clear hbO hv2 h2 Hk
      go_wp2_with fail
      go_loopg [12] M.length (fun g t wr => ∃ h : Nat, h ≤ M.length ∧ g = M.length - h ∧ t = .int .i64 h ∧ HH w wr [(w.heap.size, rowO 24 [.slice aS S.length cS, .slice aM M.length cM, .int .i64 L]), (bT, rowO 3 (ints (tbTo (rturn T) M.length M.length))), (bO, rowO 3 (ints (mvTo (rturn T) M h)))] [])
      case atStart => exact ⟨0, Nat.zero_le _, rfl, rfl, H2.out⟩
      case round =>
        clear H2
        obtain ⟨h, hh, rfl, rfl, hk⟩ := hrel
        have Hk := Lib.hid hk
        clear hk
        by_cases hl : h < M.length
        · have Hd := Lib.hid Hk.out.drew
          have hc0_1 := Hd.out.cell (k := 0) (i := 1) rfl rfl
          obtain ⟨b', o', rfl, _, hcell⟩ := (Hd.out.came HMT.out.1).open (by omega)
          have hcm := hcell h hl
          obtain ⟨hm1, hm2⟩ := Hmt.out h (by have := HN.out.1; omega)
          rw [hm2] at hcm
          have hm3 : mt M h < M.length := by rw [HN.out.1]; exact hm1
          have hlt : (tbTo (rturn T) M.length M.length).length = M.length := tbTo_len _ _ _
          have hcx := Hd.out.int (k := 1) rfl h (by rw [hlt]; exact hl)
          have hcy := Hd.out.int (k := 1) rfl (mt M h) (by rw [hlt]; exact hm3)
          rw [tbTo_nth _ _ _ (Nat.le_refl _) _ hl] at hcx
          rw [tbTo_nth _ _ _ (Nat.le_refl _) _ hm3] at hcy
          have hqb : (rturn T) h < M.length := by have := HN.out.1; show tn h _ < _; unfold tn; omega
          have hlo : (mvTo (rturn T) M h).length = M.length := mvTo_len _ _ _
          have hset := Lib.hid (Hd.out.setInt (k := 2) rfl ((rturn T) h) (((rturn T) (mt M h) : Nat) : Int))
          have hcz := Hd.out.int (k := 2) rfl ((rturn T) h) (by rw [hlo]; exact hqb)
          have hfz := Hd.out.frozen (k := 2) rfl ((rturn T) h)
          have Hst : Hid (mvTo (rturn T) M (h + 1) = (mvTo (rturn T) M h).set ((rturn T) h) (((rturn T) (mt M h) : Nat) : Int)) := Lib.hid rfl
          clear hlt hlo hcell hm1 hm2
          generalize (rturn T) (mt M h) = q2 at *
          generalize (rturn T) h = q1 at *
          generalize mt M h = m at *
          go_wp2_with fail
          go_region
          all_goals
            go_wp2_with fail
            go_roundg (M.length - (h + 1))
            case measure => omega
            case rel => exact ⟨h + 1, by omega, rfl, by go_num, by rw [Hst.out]; exact hset.out⟩
        · obtain rfl : h = M.length := by omega
          go_wp2_with fail
          go_ret
          exact ⟨bO, rfl, Hk.out.row (k := 2) rfl, Hk.out.below, HbO.out⟩
set_option maxRecDepth 100000 in
set_option maxHeartbeats 16000000 in
theorem rmove_flip (S M T : List Int) (L : Int) (aS aM aT : Option Addr) (cS cM cT n : Nat) (w : World) (hn : n ≤ 64) (hMl : M.length = 4 * n) (hTl : T.length = n) (hmt : ∀ x, x < 4 * n → mt M x < 4 * n ∧ nth M x = (mt M x : Int)) (hTb : ∀ c, c < n → -4 ≤ nth T c ∧ nth T c ≤ 4) (hM : IntsAt w aM M) (hT : IntsAt w aT T) :
    Calls Try.prog 119 #[.agg #[.slice aS S.length cS, .slice aM M.length cM, .int .i64 L], .slice aT T.length cT, .bool true] w fun e w' => ∃ b : Nat, e = .returned (.slice (some ⟨b, 0, none⟩) M.length M.length) ∧ Row w' b 3 (ints (mvL (rflip T) M)) ∧ Below w.heap.size w w' ∧ w.heap.size ≤ b := by
  obtain ⟨W, hW⟩ : ∃ W, W = (w.alloc (.cells #[.slice aS S.length cS, .slice aM M.length cM, .int .i64 L] 24)) := ⟨_, rfl⟩
  have h0 : HH w W [(w.heap.size, rowO 24 [.slice aS S.length cS, .slice aM M.length cM, .int .i64 L])] [] := by rw [hW]; exact ((HH.start w).alloc #[.slice aS S.length cS, .slice aM M.length cM, .int .i64 L] 24 rfl rfl)
  have H0 := Lib.hid h0
  have hmk := run_mk M.length (by omega)
  have HN := Lib.hid (And.intro hMl hTl)
  have Hmt := Lib.hid hmt
  have HTb := Lib.hid hTb
  have HMT := Lib.hid (And.intro hM hT)
  have hN0 : M.length ≤ 256 := by omega
  have hT0 : T.length ≤ 64 := by omega
  clear hMl hTl hmt hTb hM hT h0
  go_enter Try.func119, Try.ntmps119
  go_upto_region 1 with fail
  rw [← hW]
  clear hW
  have hc0_1 := H0.out.cell (k := 0) (i := 1) rfl rfl
  go_upto_region 3 with fail
  obtain ⟨v, hv⟩ : ∃ x, x = W.alloc (.cells (Array.replicate M.length (.int .i64 0)) 3) := ⟨_, rfl⟩
  rw [← hv]
  have h1 : HH w v [(w.heap.size, rowO 24 [.slice aS S.length cS, .slice aM M.length cM, .int .i64 L]), (W.heap.size, rowO 3 (ints (tbTo (rflip T) M.length 0)))] [] := by
    rw [hv]; exact H0.out.alloc _ 3 rfl (zeros_ints _)
  obtain ⟨bT, hbT⟩ : ∃ x, x = W.heap.size := ⟨_, rfl⟩
  rw [← hbT] at h1
  rw [← hbT]
  have HbT : Hid (w.heap.size ≤ bT) := Lib.hid (by rw [hbT]; exact H0.out.below.size)
  have H1 := Lib.hid h1
  clear hbT hv h1 H0 hc0_1
  go_wp2_with fail
  go_loopg [9] M.length (fun g t wr => ∃ h : Nat, h ≤ M.length ∧ g = M.length - h ∧ t = .int .i64 h ∧ HH w wr [(w.heap.size, rowO 24 [.slice aS S.length cS, .slice aM M.length cM, .int .i64 L]), (bT, rowO 3 (ints (tbTo (rflip T) M.length h)))] [])
  case atStart => exact ⟨0, Nat.zero_le _, rfl, rfl, H1.out⟩
  case round =>
    clear H1
    obtain ⟨h, hh, rfl, rfl, hk⟩ := hrel
    have Hk := Lib.hid hk
    clear hk
    by_cases hl : h < M.length
    · obtain ⟨c, hc⟩ : ∃ x, x = h / 4 := ⟨_, rfl⟩
      obtain ⟨s, hs⟩ : ∃ x, x = h % 4 := ⟨_, rfl⟩
      have hcT : c < T.length := by have := HN.out.1; have := HN.out.2; omega
      have hd1 : (h : Int) / 4 = (c : Int) := by omega
      have hd2 : (h : Int).tdiv 4 = (c : Int) := by rw [Int.tdiv_eq_ediv_of_nonneg (by omega)]; exact hd1
      have hd3 : (h : Int) % 4 = (s : Int) := by omega
      have hd4 : (h : Int).tmod 4 = (s : Int) := by rw [Int.tmod_eq_emod_of_nonneg (by omega)]; exact hd3
      have hs4 : s < 4 := by omega
      obtain ⟨b', o', rfl, _, hcell⟩ := (Hk.out.came HMT.out.2).open (by omega)
      have hct := hcell c hcT
      have htb := HTb.out c (by have := HN.out.2; omega)
      obtain ⟨t, ht⟩ : ∃ x, x = nth T c := ⟨_, rfl⟩
      rw [← ht] at hct htb
      obtain ⟨ht0, ht1⟩ := htb
      obtain ⟨hy0, hy1, hy2⟩ := mod_twice (t - (s : Int)) (by omega) (by omega)
      obtain ⟨q, hq⟩ : ∃ x, x = (rflip T) h := ⟨_, rfl⟩
      obtain ⟨y, hy⟩ : ∃ x, x = ((t - (s : Int)) + 8).toNat % 4 := ⟨_, rfl⟩
      have hqy : q = 4 * c + y := by rw [hq, hy, ht, hc, hs]; rfl
      have hqi : ((h : Int) - (s : Int)) + (y : Int) = (q : Int) := by omega
      rw [← hy] at hy2
      have hy4 : y < 4 := by omega
      obtain ⟨z, hz⟩ : ∃ z, z = (t - (s : Int)).tmod 4 := ⟨_, rfl⟩
      rw [← hz] at hy0 hy1 hy2
      have hz2 := hz.symm
      have Hq := Lib.hid hq
      have hlt : (tbTo (rflip T) M.length h).length = M.length := tbTo_len _ _ _
      have hsz : q ≤ 1000 := by omega
      have hset := Lib.hid (Hk.out.setInt (k := 1) rfl h (q : Int))
      have hcell1 := Hk.out.int (k := 1) rfl h (by rw [hlt]; exact hl)
      have hfr1 := Hk.out.frozen (k := 1) rfl h
      have Hlt := Lib.hid hlt
      clear hlt hc hs ht hy hq hz hcell hqy
      go_wp2_with fail
      go_roundg (M.length - (h + 1))
      case measure => omega
      case rel => exact ⟨h + 1, by omega, rfl, by go_num, by rw [tbTo, ← Hq.out]; exact hset.out⟩
    · obtain rfl : h = M.length := by omega
      go_upto_region 11 with fail
      obtain ⟨v2, hv2⟩ : ∃ x, x = wr.alloc (.cells (Array.replicate M.length (.int .i64 0)) 3) := ⟨_, rfl⟩
      rw [← hv2]
      have h2 : HH w v2 [(w.heap.size, rowO 24 [.slice aS S.length cS, .slice aM M.length cM, .int .i64 L]), (bT, rowO 3 (ints (tbTo (rflip T) M.length M.length))), (wr.heap.size, rowO 3 (ints (mvTo (rflip T) M 0)))] [] := by
        rw [hv2]; exact Hk.out.alloc _ 3 rfl (zeros_ints _)
      obtain ⟨bO, hbO⟩ : ∃ x, x = wr.heap.size := ⟨_, rfl⟩
      rw [← hbO] at h2
      rw [← hbO]
      have HbO : Hid (w.heap.size ≤ bO) := Lib.hid (by rw [hbO]; exact Hk.out.below.size)
      have H2 := Lib.hid h2
      clear hbO hv2 h2 Hk
      go_wp2_with fail
      go_loopg [12] M.length (fun g t wr => ∃ h : Nat, h ≤ M.length ∧ g = M.length - h ∧ t = .int .i64 h ∧ HH w wr [(w.heap.size, rowO 24 [.slice aS S.length cS, .slice aM M.length cM, .int .i64 L]), (bT, rowO 3 (ints (tbTo (rflip T) M.length M.length))), (bO, rowO 3 (ints (mvTo (rflip T) M h)))] [])
      case atStart => exact ⟨0, Nat.zero_le _, rfl, rfl, H2.out⟩
      case round =>
        clear H2
        obtain ⟨h, hh, rfl, rfl, hk⟩ := hrel
        have Hk := Lib.hid hk
        clear hk
        by_cases hl : h < M.length
        · have Hd := Lib.hid Hk.out.drew
          have hc0_1 := Hd.out.cell (k := 0) (i := 1) rfl rfl
          obtain ⟨b', o', rfl, _, hcell⟩ := (Hd.out.came HMT.out.1).open (by omega)
          have hcm := hcell h hl
          obtain ⟨hm1, hm2⟩ := Hmt.out h (by have := HN.out.1; omega)
          rw [hm2] at hcm
          have hm3 : mt M h < M.length := by rw [HN.out.1]; exact hm1
          have hlt : (tbTo (rflip T) M.length M.length).length = M.length := tbTo_len _ _ _
          have hcx := Hd.out.int (k := 1) rfl h (by rw [hlt]; exact hl)
          have hcy := Hd.out.int (k := 1) rfl (mt M h) (by rw [hlt]; exact hm3)
          rw [tbTo_nth _ _ _ (Nat.le_refl _) _ hl] at hcx
          rw [tbTo_nth _ _ _ (Nat.le_refl _) _ hm3] at hcy
          have hqb : (rflip T) h < M.length := by have := HN.out.1; show 4 * (h / 4) + _ % 4 < _; omega
          have hlo : (mvTo (rflip T) M h).length = M.length := mvTo_len _ _ _
          have hset := Lib.hid (Hd.out.setInt (k := 2) rfl ((rflip T) h) (((rflip T) (mt M h) : Nat) : Int))
          have hcz := Hd.out.int (k := 2) rfl ((rflip T) h) (by rw [hlo]; exact hqb)
          have hfz := Hd.out.frozen (k := 2) rfl ((rflip T) h)
          have Hst : Hid (mvTo (rflip T) M (h + 1) = (mvTo (rflip T) M h).set ((rflip T) h) (((rflip T) (mt M h) : Nat) : Int)) := Lib.hid rfl
          clear hlt hlo hcell hm1 hm2
          generalize (rflip T) (mt M h) = q2 at *
          generalize (rflip T) h = q1 at *
          generalize mt M h = m at *
          go_wp2_with fail
          go_region
          all_goals
            go_wp2_with fail
            go_roundg (M.length - (h + 1))
            case measure => omega
            case rel => exact ⟨h + 1, by omega, rfl, by go_num, by rw [Hst.out]; exact hset.out⟩
        · obtain rfl : h = M.length := by omega
          go_wp2_with fail
          go_ret
          exact ⟨bO, rfl, Hk.out.row (k := 2) rfl, Hk.out.below, HbO.out⟩
end Go.Proofs.Ytkopbcehfbmnmaa
