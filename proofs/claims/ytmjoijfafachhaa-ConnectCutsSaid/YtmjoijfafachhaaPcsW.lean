/- law07's pieces: how many parts remain without two edges. -/
import Derived.Test.YtmjoijfafachhaaPcsP
import Derived.Test.YtmjoijfafachhaaHpfA
import Derived.Test.YtmjoijfafachhaaConM
import Derived.Test.YtmjoijfafachhaaCycleA
namespace Go.Proofs.Ytmjoijfafachhaa
open Go Go.RowKit
theorem drop1_ints (b : Nat) (t : List Nat) : (ints (nats (b :: t))).drop 1 = ints (nats t) := rfl
theorem ints_nats_snoc (l : List Nat) (m : Nat) : ints (nats l) ++ [.int .i64 (m : Int)] = ints (nats (l ++ [m])) := by rw [← nats_snoc, ← ints_snoc]
theorem natsv_len (l : List Nat) : (ints (nats l)).length = l.length := by rw [ints_length, nats_length]
set_option maxRecDepth 100000 in
set_option maxHeartbeats 16000000 in
theorem pieces_any (S M : List Int) (L : Int) (aS aM : Option Addr) (cS cM : Nat) (x y : Nat) (w : World) (hv : vldB S M L = true) (hM : IntsAt w aM M) :
    Calls Try.prog 31 #[.agg #[.slice aS S.length cS, .slice aM M.length cM, .int .i64 L], .int .i64 (x : Int), .int .i64 (y : Int)] w fun e w' => e = .returned (.int .i64 ((ncTo M x y S.length S.length : Nat) : Int)) ∧ Below w.heap.size w w' := by
  have hs := vldB_shape hv
  have hfw := hs.few
  have Hm := Lib.hid hs.mates2
  have HMt : Hid (∀ x, x < 4 * S.length → ∃ p : Nat, p < 4 * S.length ∧ nth M x = (p : Int) ∧ mt M x = p) := Lib.hid fun x hx => by
    have := hs.range x hx
    exact ⟨mt M x, hs.mt_lt hx, by unfold mt; omega, rfl⟩
  have HM := Lib.hid hM
  have HMl := Lib.hid hs.len
  have hNb : M.length ≤ 256 := by rw [hs.len]; omega
  obtain ⟨i0, hi0, hz0, hz1, hz2⟩ := info_parts Try.info3
  have hmk := run_mk1 (T := 68) (z := .bool false) (bytes := 1) Try.underlying68 Try.info4 rfl S.length S.length (Nat.le_refl _) (by omega) (by omega)
  have H0 := Lib.hid ((HH.start w).alloc #[.slice aS S.length cS, .slice aM M.length cM, .int .i64 L] 24 rfl rfl)
  have H1 := Lib.hid (H0.out.alloc (Array.replicate S.length (.bool false)) 4 (b := w.heap.size + 1) (by simp) (vs := bools (List.replicate S.length false)) (replicate_bools _))
  clear hs hv hM
  generalize hn : S.length = n at *
  clear hn
  obtain ⟨N, hNe⟩ : ∃ N, N = M.length := ⟨_, rfl⟩
  have HNl : Hid (N = 4 * n) := Lib.hid (by rw [hNe, HMl.out])
  have HNe := Lib.hid hNe
  rw [← hNe] at H0 H1 hNb ⊢
  clear hNe HMl
  have hNlo : 4 * n ≤ N := by rw [HNl.out]; exact Nat.le_refl _
  have hNhi : N ≤ 4 * n := by rw [HNl.out]; exact Nat.le_refl _
  have k0 := H0.out.cell (k := 0) (i := 0) rfl rfl
  have k1 := H0.out.cell (k := 0) (i := 1) rfl rfl
  go_enter Try.func31, Try.ntmps31
  go_wp2_with fail
  clear k0 k1
  go_loopg [21, 9] n (fun g v s9 wr => ∃ (c q : Nat) (seen : List Bool), c ≤ n ∧ g = n - c ∧ v = .int .i64 c ∧ s9 = .int .i64 (q : Int) ∧ q ≤ c ∧ Hid (q = ncTo M x y n c) ∧ seen.length = n ∧ Hid (∀ d, d < n → (bth seen d = true ↔ oldW M x y c d)) ∧ HH w wr [(w.heap.size, rowO 24 [.slice aS n cS, .slice aM N cM, .int .i64 L]), (w.heap.size + 1, rowO 4 (bools seen))] [])
  case atStart =>
    refine ⟨0, 0, _, Nat.zero_le _, rfl, rfl, rfl, Nat.le_refl _, Lib.hid rfl, by simp, Lib.hid fun d hd => ?_, H1.out⟩
    constructor
    · intro h; rw [bth_rep] at h; cases h
    · rintro ⟨e, he, _⟩; omega
  case round =>
    obtain ⟨c, q, seen, hc, rfl, rfl, rfl, hqc, Hq, hsl, Ho, hh⟩ := hrel
    have Hh := Lib.hid hh
    clear hh H0 H1 hmk
    have Hsl := Lib.hid hsl
    by_cases hcn : c < n
    · have hb0 := Hh.out.bool (k := 1) (i := c) rfl (by omega)
      have hf0 := Hh.out.frozen (k := 1) rfl c
      have hsz := Hh.out.lt (x := (w.heap.size + 1, rowO 4 (bools seen))) (by simp)
      have hsz : w.heap.size + 1 < wr.heap.size := hsz
      clear hsl
      by_cases hseen : bth seen c = true
      · rw [hseen] at hb0
        have HN := Lib.hid (ncTo_old Hm.out hcn ((Ho.out c hcn).1 hseen))
        clear hseen
        go_wp2_with fail
        go_roundg (n - (c + 1))
        case measure => omega
        case rel => exact ⟨c + 1, q, seen, by omega, rfl, by go_num, rfl, by omega, Lib.hid (by rw [Hq.out, HN.out.1]), Hsl.out, Lib.hid fun d hd => (Ho.out d hd).trans (HN.out.2 d hd).symm, Hh.out⟩
      · have hsf : bth seen c = false := by simpa using hseen
        rw [hsf] at hb0
        have HN := Lib.hid (ncTo_new (x := x) (y := y) Hm.out hcn (fun h => hseen ((Ho.out c hcn).2 h)))
        have Hst := Lib.hid (Sr.start (M := M) (x := x) (y := y) (old := oldW M x y c) Hsl.out hcn Ho.out)
        have Hu0 : Hid (unm (seen.set c true) + 1 ≤ n) := Lib.hid (by
          rw [unm_set (by rw [Hsl.out]; exact hcn) hsf]
          unfold unm
          have := cnt_le (fun d => !bth seen d) seen.length
          rw [Hsl.out] at this ⊢; exact this)
        have Hg0 := Lib.hid ((Hh.out.setBool (k := 1) rfl c true).addSl (s := []) ((Below.refl _ _).alloc (Nat.le_refl _) (.cells #[.int .i64 (c : Int)] 3)) (((Row.new _ #[.int .i64 (c : Int)] 3).own (Nat.le_refl _))))
        clear hseen hsf
        go_wp2_with fail
        go_loopg [11] 1000 (fun g qv ws => ∃ (sn : List Bool) (rs : List Nat) (A : Option Addr) (C : Nat), qv = .slice A rs.length C ∧ Hid (unm sn + rs.length ≤ g) ∧ g ≤ 1000 ∧ rs.length ≤ 1000 ∧ Hid (Sr M x y n c (oldW M x y c) sn rs n 0) ∧ HH w ws [(w.heap.size, rowO 24 [.slice aS n cS, .slice aM N cM, .int .i64 L]), (w.heap.size + 1, rowO 4 (bools sn))] [⟨A, C, 3, ints (nats rs)⟩])
        case atStart =>
          refine ⟨_, [c], _, 1, rfl, Lib.hid ?_, Nat.le_refl _, by simp, Lib.hid Hst.out, ?_⟩
          · have := Hu0.out; show _ + 1 ≤ 1000; omega
          · have h := Hg0.out
            simpa [nats, ints, setO] using h
        case round =>
          obtain ⟨sn, rs, A, C, rfl, Hu, hgk1, hrl, Hsr, hh⟩ := hrel
          replace Hh := Lib.hid hh
          clear hh Hg0 Hst Hu0 hb0 hf0 hsz
          cases rs with
          | nil =>
            have HF := Lib.hid (Hsr.out.fin Hm.out hcn (fun d e => oldW_step d e))
            go_wp2_with fail
            go_roundg (n - (c + 1))
            case measure => omega
            case rel =>
              refine ⟨c + 1, q + 1, sn, by omega, rfl, by go_num, by go_num, by omega, Lib.hid (by rw [Hq.out, HN.out]), Hsr.out.len, Lib.hid fun d hd => (HF.out d hd).trans oldW_succ.symm, Hh.out.forget (List.nil_sublist _)⟩
          | cons b t =>
            obtain ⟨hp, hbn⟩ := Hsr.out.pop
            have Hp := Lib.hid hp
            clear hp
            have htl : t.length ≤ 1000 := by simp only [List.length_cons] at hrl; omega
            obtain ⟨b2, o2, rfl, _, _, hcR, _⟩ := (Hh.out.sl (k := 0) rfl).open (by show 0 < (ints (nats (b :: t))).length; rw [natsv_len]; simp)
            have hc0 : wr.cell? ⟨b2, o2, none⟩ = some (.int .i64 (b : Int)) := hcR 0 _ rfl
            clear hcR
            have HO : Hid (Own wr w.heap.size 3 (some ⟨b2, o2, none⟩) C (ints (nats (b :: t)))) := Lib.hid (Hh.out.sl (k := 0) rfl)
            have Hlen : Hid ((ints (nats (b :: t))).length = (b :: t).length) := Lib.hid (natsv_len _)
            go_wp2_with (with_reducible refine wpList_tail rfl (.tmp 41) 22 3 i0 Try.underlying22 hi0 hz1 rfl w.heap.size b2 o2 _ C (ints (nats (b :: t))) rfl Hlen.out (by simp) HO.out ?_; intro A' HO' HA'; have HO2 := Lib.hid (And.intro HO' HA'); clear HO' HA')
            have Hh2 := Lib.hid (Hh.out.recut (k := 0) rfl HO2.out.1 (fun z hz => ⟨_, rfl, (HO2.out.2 z hz).symm⟩))
            rw [drop1_ints] at Hh2
            have Hu2 : Hid (unm sn + t.length + 1 ≤ gk) := Lib.hid (by have := Hu.out; simp only [List.length_cons] at this; omega)
            clear HO HO2 Hlen hc0 Hh Hu Hsr
            go_loopg [13, 11] 4 (fun g v qv ws => ∃ (k h : Nat) (sn' : List Bool) (rs' : List Nat) (A : Option Addr) (C : Nat), k ≤ 4 ∧ g = 4 - k ∧ v = .int .i64 (h : Int) ∧ Hid (h = 4 * b + k) ∧ qv = .slice A rs'.length C ∧ Hid (unm sn' + rs'.length + 1 ≤ gk) ∧ rs'.length ≤ 1000 + k ∧ Hid (Sr M x y n c (oldW M x y c) sn' rs' b k) ∧ HH w ws [(w.heap.size, rowO 24 [.slice aS n cS, .slice aM N cM, .int .i64 L]), (w.heap.size + 1, rowO 4 (bools sn'))] [⟨A, C, 3, ints (nats rs')⟩])
            case atStart => exact ⟨0, 4 * b, sn, t, A', C - 1, Nat.zero_le _, rfl, by go_num, Lib.hid rfl, rfl, Lib.hid Hu2.out, htl, Lib.hid Hp.out, Hh2.out⟩
            case round =>
              obtain ⟨k, h, sn', rs', A2, C2, hk, rfl, rfl, Hhk, rfl, Hu3, hrl3, Hsr, hh⟩ := hrel
              have Hh := Lib.hid hh
              clear hh Hu2 Hp Hh2
              have hh1 : 4 * b ≤ h := by rw [Hhk.out]; omega
              have hh2 : h ≤ 4 * b + 4 := by rw [Hhk.out]; omega
              by_cases hk4 : k < 4
              · have hh3 : h < 4 * b + 4 := by rw [Hhk.out]; omega
                obtain ⟨m, hml, hmv, hmm⟩ := HMt.out h (by omega)
                obtain ⟨bM, oM, rfl, _, hcM⟩ := (Hh.out.came HM.out).open (by have := HNe.out; omega)
                have hcm := hcM h (by have := HNe.out; omega)
                rw [hmv] at hcm
                clear hcM
                have Hmm := Lib.hid (And.intro hmv hmm)
                clear hmv hmm
                have kk1 := Hh.out.cell (k := 0) (i := 1) rfl rfl
                have hm4 : m / 4 < n := by omega
                have hbs := Hh.out.bool (k := 1) (i := m / 4) rfl (by rw [Hsr.out.len]; exact hm4)
                have hbf := Hh.out.frozen (k := 1) rfl (m / 4)
                have Hskip : Hid ((h = x ∨ m = x ∨ h = y ∨ m = y ∨ bth sn' (m / 4) = true) → Sr M x y n c (oldW M x y c) sn' rs' b (k + 1)) := Lib.hid fun g => Hsr.out.skip (by rw [← Hhk.out, Hmm.out.2]; exact g)
                have t1 : (4 : Int) * (b : Int) + 4 = ((4 * b + 4 : Nat) : Int) := by omega
                have u1 : decide ((h : Int) < (4 : Int) * (b : Int) + 4) = true := decide_eq_true (by omega)
                clear t1
                by_cases e1 : h = x
                · have f1 : ((h : Int) != (x : Int)) = false := by subst e1; simp
                  replace Hskip := Lib.hid (Hskip.out (.inl e1))
                  clear e1
                  go_wp2_with fail
                  go_roundg (4 - (k + 1))
                  case measure => omega
                  case rel => exact ⟨k + 1, h + 1, sn', rs', A2, C2, by omega, rfl, by go_num, Lib.hid (by rw [Hhk.out]; omega), rfl, Lib.hid Hu3.out, by omega, Lib.hid Hskip.out, Hh.out⟩
                have f1 : ((h : Int) != (x : Int)) = true := by simp; omega
                by_cases e2 : m = x
                · have f2 : ((m : Int) != (x : Int)) = false := by subst e2; simp
                  replace Hskip := Lib.hid (Hskip.out (.inr (.inl e2)))
                  clear e1 e2
                  go_wp2_with fail
                  go_roundg (4 - (k + 1))
                  case measure => omega
                  case rel => exact ⟨k + 1, h + 1, sn', rs', A2, C2, by omega, rfl, by go_num, Lib.hid (by rw [Hhk.out]; omega), rfl, Lib.hid Hu3.out, by omega, Lib.hid Hskip.out, Hh.out⟩
                have f2 : ((m : Int) != (x : Int)) = true := by simp; omega
                by_cases e3 : h = y
                · have f3 : ((h : Int) != (y : Int)) = false := by subst e3; simp
                  replace Hskip := Lib.hid (Hskip.out (.inr (.inr (.inl e3))))
                  clear e1 e2 e3
                  go_wp2_with fail
                  go_roundg (4 - (k + 1))
                  case measure => omega
                  case rel => exact ⟨k + 1, h + 1, sn', rs', A2, C2, by omega, rfl, by go_num, Lib.hid (by rw [Hhk.out]; omega), rfl, Lib.hid Hu3.out, by omega, Lib.hid Hskip.out, Hh.out⟩
                have f3 : ((h : Int) != (y : Int)) = true := by simp; omega
                by_cases e4 : m = y
                · have f4 : ((m : Int) != (y : Int)) = false := by subst e4; simp
                  replace Hskip := Lib.hid (Hskip.out (.inr (.inr (.inr (.inl e4)))))
                  clear e1 e2 e3 e4
                  go_wp2_with fail
                  go_roundg (4 - (k + 1))
                  case measure => omega
                  case rel => exact ⟨k + 1, h + 1, sn', rs', A2, C2, by omega, rfl, by go_num, Lib.hid (by rw [Hhk.out]; omega), rfl, Lib.hid Hu3.out, by omega, Lib.hid Hskip.out, Hh.out⟩
                have f4 : ((m : Int) != (y : Int)) = true := by simp; omega
                cases e5 : bth sn' (m / 4)
                · have Hpush : Hid (Sr M x y n c (oldW M x y c) (sn'.set (m / 4) true) (rs' ++ [m / 4]) b (k + 1)) := Lib.hid (by
                    have g := Hsr.out.push hbn hk4 (by rw [← Hhk.out]; exact e1) (by rw [← Hhk.out, Hmm.out.2]; exact e2) (by rw [← Hhk.out]; exact e3) (by rw [← Hhk.out, Hmm.out.2]; exact e4) (by rw [← Hhk.out, Hmm.out.2]; exact hm4) (by rw [← Hhk.out, Hmm.out.2]; exact e5)
                    rw [← Hhk.out, Hmm.out.2] at g
                    exact g)
                  have Hu4 : Hid (unm (sn'.set (m / 4) true) + (rs' ++ [m / 4]).length + 1 ≤ gk) := Lib.hid (by
                    have g1 := unm_set (seen := sn') (m := m / 4) (by rw [Hsr.out.len]; exact hm4) e5
                    have g2 := Hu3.out
                    rw [List.length_append, List.length_singleton]; omega)
                  rw [e5] at hbs
                  have Hdiv : Hid ((m : Int) / 4 = ((m / 4 : Nat) : Int)) := Lib.hid (by omega)
                  have Hh5 := Lib.hid (Hh.out.setBool (k := 1) rfl (m / 4) true)
                  have Hh6 := Lib.hid (Hh5.out.call ((Below.refl _ _).alloc (Nat.le_refl _) (.cells #[.int .i64 ((m : Int) / 4)] 3)))
                  have HO6 : Hid (Own ((wr.setCell ⟨w.heap.size + 1, m / 4, none⟩ (.bool true)).alloc (.cells #[.int .i64 ((m : Int) / 4)] 3)) w.heap.size 3 A2 C2 (ints (nats rs'))) := Lib.hid (Hh6.out.sl (k := 0) rfl)
                  have HC6 : Hid (((wr.setCell ⟨w.heap.size + 1, m / 4, none⟩ (.bool true)).alloc (.cells #[.int .i64 ((m : Int) / 4)] 3)).cell? ⟨wr.heap.size, 0, none⟩ = some (.int .i64 ((m : Int) / 4))) := Lib.hid (by
                    have := (Row.new (wr.setCell ⟨w.heap.size + 1, m / 4, none⟩ (.bool true)) #[.int .i64 ((m : Int) / 4)] 3).cell 0
                    simpa using this)
                  have HB6 : Hid (w.heap.size ≤ ((wr.setCell ⟨w.heap.size + 1, m / 4, none⟩ (.bool true)).alloc (.cells #[.int .i64 ((m : Int) / 4)] 3)).heap.size) := Lib.hid Hh6.out.below.size
                  have Hln : Hid ((ints (nats rs')).length = rs'.length) := Lib.hid (natsv_len _)
                  clear e1 e2 e3 e4 e5 Hskip Hh Hh5
                  go_wp2_with (with_reducible refine wpList_append_one rfl (.tmp 87) (.tmp 90) 22 rfl w.heap.size 3 i0 (.int .i64 0) 8 Try.underlying22 hi0 hz0 hz1 hz2 rfl A2 rs'.length C2 (ints (nats rs')) rfl Hln.out HO6.out _ 1 (.int .i64 ((m : Int) / 4)) rfl HC6.out rfl (by omega) (by omega) HB6.out ?_; intro A7 C7 w7 hO7 hT7 hA7; have H7 := Lib.hid (Hh6.out.grow (k := 0) rfl hO7 hT7 hA7); clear hO7 hT7 hA7)
                  go_roundg (4 - (k + 1))
                  case measure => omega
                  case rel =>
                    refine ⟨k + 1, h + 1, sn'.set (m / 4) true, rs' ++ [m / 4], A7, C7, by omega, rfl, by go_num, Lib.hid (by rw [Hhk.out]; omega), by rw [List.length_append]; rfl, Lib.hid Hu4.out, by rw [List.length_append, List.length_singleton]; omega, Lib.hid Hpush.out, ?_⟩
                    have h := H7.out
                    rw [Hdiv.out, ints_nats_snoc] at h
                    exact h
                · replace Hskip := Lib.hid (Hskip.out (.inr (.inr (.inr (.inr e5)))))
                  rw [e5] at hbs
                  clear e1 e2 e3 e4 e5
                  go_wp2_with fail
                  go_roundg (4 - (k + 1))
                  case measure => omega
                  case rel => exact ⟨k + 1, h + 1, sn', rs', A2, C2, by omega, rfl, by go_num, Lib.hid (by rw [Hhk.out]; omega), rfl, Lib.hid Hu3.out, by omega, Lib.hid Hskip.out, Hh.out⟩
              · obtain rfl : k = 4 := by omega
                have hh3 : 4 * b + 4 ≤ h := by rw [Hhk.out]; exact Nat.le_refl _
                have u1 : decide ((h : Int) < (4 : Int) * (b : Int) + 4) = false := decide_eq_false (by omega)
                have Hc := Lib.hid (Hsr.out.close hbn)
                have hgk : 0 < gk := by have := Hu3.out; omega
                have Hu5 : Hid (unm sn' + rs'.length ≤ gk - 1) := Lib.hid (by have := Hu3.out; omega)
                go_wp2_with fail
                go_roundg (gk - 1)
                case measure => omega
                case rel => exact ⟨sn', rs', A2, C2, rfl, Lib.hid Hu5.out, by omega, by have := Hu5.out; omega, Lib.hid Hc.out, Hh.out⟩
    · obtain rfl : c = n := by omega
      go_wp2_with fail
      go_ret
      exact ⟨by have e := Hq.out; subst e; rfl, Hh.out.below⟩
end Go.Proofs.Ytmjoijfafachhaa
