/- The walks of the linking reference. -/
import Derived.Test.YtkopbcehfbmnmaaRefSmallW
namespace Go.Proofs.Ytkopbcehfbmnmaa
open Go Go.RowKit
theorem own1_at (k : Nat) (f : Nat → Int × Int) (x c : Nat) : own1 k f x c = if x / 4 = c then (if x % 2 = 0 then ((k : Int), (f c).2) else ((f c).1, (k : Int))) else f c := by
  unfold own1 upd
  by_cases h : x / 4 = c
  · rw [if_pos h.symm, if_pos h, h]
  · rw [if_neg (fun e => h e.symm), if_neg h]
set_option maxRecDepth 100000 in
set_option maxHeartbeats 4000000 in
theorem rowner_any (S M : List Int) (L : Int) (aS aM : Option Addr) (cS cM c : Nat) (w : World) (hv : vldB S M L = true) (hS : IntsAt w aS S) (hM : IntsAt w aM M) :
    Calls Try.prog 157 #[.agg #[.slice aS S.length cS, .slice aM M.length cM, .int .i64 L], .int .i64 (c : Int)] w fun e w' => e = .returned (.tuple #[.int .i64 (ownF (strandsL S M L) c).1, .int .i64 (ownF (strandsL S M L) c).2]) ∧ Below w.heap.size w w' := by
  have hs := vldB_shape hv
  have Hls := Lib.hid (strandsL_lists hv)
  have hl2 := hs.few
  have hB : Below w.heap.size w (w.alloc (.cells #[.slice aS S.length cS, .slice aM M.length cM, .int .i64 L] 24)) := (Below.refl _ _).alloc (Nat.le_refl _) _
  have HSt : Hid (Calls Try.prog 129 #[.agg #[.slice aS S.length cS, .slice aM M.length cM, .int .i64 L]] (w.alloc (.cells #[.slice aS S.length cS, .slice aM M.length cM, .int .i64 L] 24)) fun e w' => ∃ a c, e = .returned (.slice a (strandsL S M L).length c) ∧ Below w.heap.size w w' ∧ OwnRows w' w.heap.size a c ((strandsL S M L).map nats)) := Lib.hid (by
    refine (rstrands_any S M L S.length aS aM cS cM _ (by omega) rfl (hS.later hB) hs.len hs.mates (hM.later hB)).mono ?_
    rintro e w' ⟨a, c, he, hb, hr⟩
    rw [rstrandsL_eq hv] at he hr
    exact ⟨a, c, he, below_step hB hb, hr.mono (by simp)⟩)
  clear hs hv hS hM hB
  generalize strandsL S M L = ls at *
  have hfew := Hls.out.few
  go_enter Try.func157, Try.ntmps157
  go_wp2_with fail
  refine HSt.out.mono ?_
  rintro e w2 ⟨A, cA, rfl, hb2, hR⟩
  have Hb2 := Lib.hid hb2
  have HR := Lib.hid hR
  clear hb2 hR HSt
  go_wp2_with fail
  go_loopg [9, 6, 7] ls.length (fun g i u o wr => ∃ k : Nat, k ≤ ls.length ∧ g = ls.length - k ∧ i = .int .i64 k ∧ u = .int .i64 (ownTo ls k c).1 ∧ o = .int .i64 (ownTo ls k c).2 ∧ wr = w2)
  case atStart => exact ⟨0, Nat.zero_le _, rfl, rfl, rfl, rfl, rfl⟩
  case round =>
    obtain ⟨k, hk, rfl, rfl, rfl, rfl, rfl⟩ := hrel
    by_cases hkl : k < ls.length
    · obtain ⟨l, hl⟩ : ∃ l, ls[k]? = some l := ⟨_, List.getElem?_eq_getElem hkl⟩
      obtain ⟨b, off, rfl, _, _, hF⟩ := HR.out.open (by simpa using (show 0 < ls.length by omega))
      obtain ⟨aR, cR, hcF, hoR⟩ := hF k (nats l) (by rw [List.getElem?_map, hl]; rfl)
      rw [nats_length] at hcF
      have hll := Hls.out.len k l hl
      have Hlt := Lib.hid (fun j x => Hls.out.lt k l j x hl)
      have Hown : Hid (ownTo ls (k + 1) = l.foldl (own1 k) (ownTo ls k)) := Lib.hid (by
        rw [ownTo, List.getD_eq_getElem?_getD, hl]; rfl)
      generalize ownTo ls k = f at *
      have HoR := Lib.hid hoR
      clear hF hl hoR
      go_wp2_with fail
      go_loopg [10, 6, 7] l.length (fun g i u o wi => ∃ j : Nat, j ≤ l.length ∧ g = l.length - j ∧ i = .int .i64 j ∧ u = .int .i64 ((l.take j).foldl (own1 k) f c).1 ∧ o = .int .i64 ((l.take j).foldl (own1 k) f c).2 ∧ wi = wr)
      case atStart => exact ⟨0, Nat.zero_le _, rfl, rfl, by simp, by simp, rfl⟩
      case round =>
        obtain ⟨j, hj, rfl, rfl, rfl, rfl, rfl⟩ := hrel
        by_cases hjl : j < l.length
        · obtain ⟨x, hx⟩ : ∃ x, l[j]? = some x := ⟨_, List.getElem?_eq_getElem hjl⟩
          have hx4 := Hlt.out j x hx
          obtain ⟨bR, oR, rfl, _, _, hcR, _⟩ := HoR.out.open (by rw [ints_length, nats_length]; omega)
          have hcx := hcR j _ (ints_get _ _ (by rw [nats_length]; exact hjl))
          have hxd : l.getD j 0 = x := by rw [List.getD_eq_getElem?_getD, hx]; rfl
          rw [nth_nats _ _ hjl, hxd] at hcx
          have Hst : Hid ((l.take (j + 1)).foldl (own1 k) f c = if x / 4 = c then (if x % 2 = 0 then ((k : Int), ((l.take j).foldl (own1 k) f c).2) else (((l.take j).foldl (own1 k) f c).1, (k : Int))) else (l.take j).foldl (own1 k) f c) := Lib.hid (by rw [own_take k f l j x hx, own1_at])
          generalize (l.take j).foldl (own1 k) f c = p at *
          clear hcR hx hxd
          by_cases h1 : x / 4 = c
          · have t1 : ((x : Int) / 4 == (c : Int)) = true := by rw [beq_iff_eq]; omega
            rcases Nat.mod_two_eq_zero_or_one x with h2 | h2
            · have t2 : ((x : Int) % 2 == 0) = true := by rw [beq_iff_eq]; omega
              have t3 : ((x : Int) % 2 == 1) = false := by rw [beq_eq_false_iff_ne]; omega
              have HE : Hid ((l.take (j + 1)).foldl (own1 k) f c = ((k : Int), p.2)) := Lib.hid (by rw [Hst.out, if_pos h1, if_pos h2])
              clear h1 h2
              go_wp2_with fail
              go_roundg (l.length - (j + 1))
              case measure => omega
              case rel => exact ⟨j + 1, by omega, rfl, by go_num, by rw [HE.out], by rw [HE.out], rfl⟩
            · have t2 : ((x : Int) % 2 == 0) = false := by rw [beq_eq_false_iff_ne]; omega
              have t3 : ((x : Int) % 2 == 1) = true := by rw [beq_iff_eq]; omega
              have HE : Hid ((l.take (j + 1)).foldl (own1 k) f c = (p.1, (k : Int))) := Lib.hid (by rw [Hst.out, if_pos h1, if_neg (by omega)])
              clear h1 h2
              go_wp2_with fail
              go_roundg (l.length - (j + 1))
              case measure => omega
              case rel => exact ⟨j + 1, by omega, rfl, by go_num, by rw [HE.out], by rw [HE.out], rfl⟩
          · have t1 : ((x : Int) / 4 == (c : Int)) = false := by rw [beq_eq_false_iff_ne]; omega
            have HE : Hid ((l.take (j + 1)).foldl (own1 k) f c = p) := Lib.hid (by rw [Hst.out, if_neg h1])
            clear h1
            go_wp2_with fail
            go_roundg (l.length - (j + 1))
            case measure => omega
            case rel => exact ⟨j + 1, by omega, rfl, by go_num, by rw [HE.out], by rw [HE.out], rfl⟩
        · obtain rfl : j = l.length := by omega
          rw [List.take_length, ← Hown.out] at *
          go_wp2_with fail
          go_roundg (ls.length - (k + 1))
          case measure => omega
          case rel => exact ⟨k + 1, by omega, rfl, by go_num, rfl, rfl, rfl⟩
    · obtain rfl : k = ls.length := by omega
      go_wp2_with fail
      refine bodyPost_ret (results_tmp2 rfl _ _ _) rfl ?_
      exact ⟨rfl, Hb2.out⟩
theorem sign_bd {S M : List Int} {L : Int} (hv : vldB S M L = true) (c : Nat) : -1 ≤ nth S c ∧ nth S c ≤ 1 := by
  rcases Nat.lt_or_ge c S.length with h | h
  · rcases (vldB_shape hv).sign c h with h | h <;> omega
  · rw [nth_out _ _ h]; omega
set_option maxRecDepth 100000 in
set_option maxHeartbeats 4000000 in
theorem rsum_any (S M : List Int) (L : Int) (aS aM : Option Addr) (cS cM : Nat) (i k : Int) (w : World) (hv : vldB S M L = true) (hS : IntsAt w aS S) (hM : IntsAt w aM M) :
    Calls Try.prog 106 #[.agg #[.slice aS S.length cS, .slice aM M.length cM, .int .i64 L], .int .i64 i, .int .i64 k] w fun e w' => e = .returned (.int .i64 (sumTo S (ownF (strandsL S M L)) (isPair i k) S.length)) ∧ Below w.heap.size w w' := by
  have hfew := (vldB_shape hv).few
  have Hsg := Lib.hid (sign_bd hv)
  have hbox := Row.new w #[.slice aS S.length cS, .slice aM M.length cM, .int .i64 L] 24
  have Hbox := Lib.hid hbox
  have HB : Hid (∀ o, Below w.heap.size w (w.alloc o)) := Lib.hid fun o => (Below.refl _ _).alloc (Nat.le_refl _) o
  have HS := Lib.hid hS
  have HM := Lib.hid hM
  have Hv := Lib.hid hv
  clear hv hS hM hbox
  go_enter Try.func106, Try.ntmps106
  go_wp2_with fail
  go_loopg [8, 7] S.length (fun g c n wr => ∃ j : Nat, j ≤ S.length ∧ g = S.length - j ∧ c = .int .i64 j ∧ n = .int .i64 (sumTo S (ownF (strandsL S M L)) (isPair i k) j) ∧ Below w.heap.size w wr ∧ Row wr w.heap.size 24 [.slice aS S.length cS, .slice aM M.length cM, .int .i64 L])
  case atStart => exact ⟨0, Nat.zero_le _, rfl, rfl, rfl, HB.out _, Hbox.out⟩
  case round =>
    obtain ⟨j, hj, rfl, rfl, rfl, hb, hbx⟩ := hrel
    have hbd := sumTo_bd S (ownF (strandsL S M L)) (isPair i k) Hsg.out j
    have hc0 := hbx.cell 0
    have hc1 := hbx.cell 1
    have hc2 := hbx.cell 2
    simp only [List.getElem?_cons_succ, List.getElem?_cons_zero] at hc0 hc1 hc2
    have Hbx := Lib.hid hbx
    clear hbx
    by_cases hjl : j < S.length
    · have HO := Lib.hid (rowner_any S M L aS aM cS cM j wr Hv.out (HS.out.later hb) (HM.out.later hb))
      have Hst : Hid (sumTo S (ownF (strandsL S M L)) (isPair i k) (j + 1) = if isPair i k (ownF (strandsL S M L) j).1 (ownF (strandsL S M L) j).2 = true then sumTo S (ownF (strandsL S M L)) (isPair i k) j + nth S j else sumTo S (ownF (strandsL S M L)) (isPair i k) j) := Lib.hid rfl
      have hsj := Hsg.out j
      generalize (ownF (strandsL S M L) j).1 = u at *
      generalize (ownF (strandsL S M L) j).2 = o at *
      generalize sumTo S (ownF (strandsL S M L)) (isPair i k) j = t at *
      go_wp2_with fail
      refine HO.out.mono ?_
      rintro e w2 ⟨rfl, hb2⟩
      have Hb2 := Lib.hid (below_step hb hb2)
      have Hbx2 := Lib.hid (Hbx.out.later hb2 Hbx.out.lt)
      have hc0 := Hbx2.out.cell 0
      simp only [List.getElem?_cons_zero] at hc0
      obtain ⟨b, off, rfl, _, hcS⟩ := (HS.out.later Hb2.out).open (by omega)
      have hcj := hcS j hjl
      generalize hx : nth S j = x at *
      have Hx := Lib.hid hx
      clear hcS hb2 hx HO
      have Hst2 : Hid (sumTo S (ownF (strandsL S M L)) (isPair i k) (j + 1) = if ((u == i && o == k) || (u == k && o == i)) = true then t + x else t) := Lib.hid (by rw [Hst.out]; rfl)
      generalize hA : (u == i) = A at *
      generalize hBo : (o == k) = Bo at *
      generalize hC : (u == k) = C at *
      generalize hDo : (o == i) = Do at *
      cases A <;> cases Bo <;> cases C <;> cases Do <;>
      ( go_wp2_with fail
        go_roundg (S.length - (j + 1))
        case measure => omega
        case rel => exact ⟨j + 1, by omega, rfl, by go_num, by rw [Hst2.out]; rfl, Hb2.out, Hbx2.out⟩)
    · obtain rfl : j = S.length := by omega
      go_wp2_with fail
      go_ret
      exact ⟨rfl, hb⟩
end Go.Proofs.Ytkopbcehfbmnmaa
