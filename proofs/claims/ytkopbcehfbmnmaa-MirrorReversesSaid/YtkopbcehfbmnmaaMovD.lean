/- The walk of mirror.move where the sign function draws its order. -/
import Derived.Test.YtkopbcehfbmnmaaMoveW
namespace Go.Proofs.Ytkopbcehfbmnmaa
open Go Go.RowKit
/-- A function value that takes a crossing to a number; the world may go on. -/
def IntFnD (w : World) (F : FuncId) (cap : Array Value) (n : Nat) (g : Nat → Int) : Prop :=
  ∀ (W : World) (c : Nat), Below w.heap.size w W → c < n → Calls Try.prog F (#[.int .i64 (c : Int)] ++ cap) W fun e w' => e = .returned (.int .i64 (g c)) ∧ Below W.heap.size W w'
theorem MvA.up {w wx wy : World} {box : List Value} {fb : Value} {L : Int} {nS nM bD bS bM : Nat} {xs ys : List Int} (h : MvA w wx box fb L nS nM bD bS bM xs ys) (hb : Below wx.heap.size wx wy) : MvA w wy box fb L nS nM bD bS bM xs ys := by
  obtain ⟨k1, k2, k3, k4, k5, k6, k7, k8, k9⟩ := h
  exact ⟨k1.later hb k1.lt, k2.later hb k2.lt, k3.later hb k3.lt, k4.later hb k4.lt, k5.later hb k5.lt, k6.later hb k6.lt, below_step k7 hb, k8, k9⟩
set_option maxRecDepth 100000 in
set_option maxHeartbeats 8000000 in
theorem moved_any (S M : List Int) (L : Int) (aS aM : Option Addr) (cS cM n : Nat) (w : World) (G K : FuncId) (capG capK : Array Value) (gb : Nat → Nat → Int) (gs : Nat → Int)
    (hcG : ∀ args W, (callFunc G args).run Try.prog W = .ok (.enter G args) W) (hcK : ∀ args W, (callFunc K args).run Try.prog W = .ok (.enter K args) W)
    (hn : S.length = n) (hn2 : n ≤ 64) (hM4 : M.length = 4 * n) (hmt : ∀ x, x < 4 * n → nth M x = ((mt M x : Nat) : Int) ∧ mt M x < 4 * n) (hsg : ∀ c, c < n → -1 ≤ nth S c * gs c ∧ nth S c * gs c ≤ 1) (hb1 : ∀ c, -1 ≤ nth S c ∧ nth S c ≤ 1) (hg1 : ∀ c, c < n → -1 ≤ gs c ∧ gs c ≤ 1) (hgb : ∀ c x, c < n → x < 4 → -8 ≤ gb c x ∧ gb c x ≤ 8) (hG : IntFn2 w G capG n gb) (hK : IntFnD w K capK n gs) (hS : IntsAt w aS S) (hM : IntsAt w aM M) :
    Calls Try.prog 113 #[.agg #[.slice aS S.length cS, .slice aM M.length cM, .int .i64 L], .func (.func G) #[] capG, .func (.func K) #[] capK] w fun e w' =>
      ∃ bS bM, e = .returned (.agg #[.slice (some ⟨bS, 0, none⟩) S.length S.length, .slice (some ⟨bM, 0, none⟩) M.length M.length, .int .i64 L]) ∧ Row w' bS 3 (ints (mulS S gs)) ∧ Row w' bM 3 (ints (mvL (fun h => tn h (gb (h / 4) (h % 4))) M)) ∧ Below w.heap.size w w' := by
  have hl1 : S.length ≤ 64 := by omega
  have hl2 : M.length ≤ 256 := by omega
  have hl3 : M.length ≤ 4 * n := by omega
  have hl4 : 4 * n ≤ M.length := by omega
  have hl5 : S.length ≤ n := by omega
  have hl6 : n ≤ S.length := by omega
  have hmk1 := run_mk S.length (by omega)
  have hmk2 := run_mk M.length (by omega)
  have HS := Lib.hid hS
  have HM := Lib.hid hM
  have HG := Lib.hid hG
  have HK := Lib.hid hK
  have Hmt := Lib.hid hmt
  have Hsg := Lib.hid hsg
  have Hg1 := Lib.hid hg1
  have Hb1 := Lib.hid hb1
  have Hgb := Lib.hid hgb
  have HcG := Lib.hid hcG
  clear hn hM4 hS hM hG hK hmt hsg hg1 hb1 hgb hcG
  go_enter Try.func113, Try.ntmps113
  go_upto_region 2 with fail
  go_cut [8] (fun s8 wx => ∃ bD bS bM, s8 = .pointer (some ⟨bD, 0, none⟩) ∧ MvA w wx [.slice aS S.length cS, .slice aM M.length cM, .int .i64 L] (.func (.func G) #[] capG) L S.length M.length bD bS bM (List.replicate S.length 0) (List.replicate M.length 0))
  case first =>
    go_region
    all_goals (go_wp2_with fail; go_meet)
    all_goals first
      | (refine ⟨_, w.heap.size + 3, w.heap.size + 4, rfl, mva_begin w _ _ _ rfl _ _ _ _ _ _ L _ _ _ _ _ ?_ ?_ ?_ ?_⟩ <;> first | omega | (simp; done))
      | (refine ⟨_, w.heap.size + 3, w.heap.size + 5, rfl, mva_begin w _ _ _ rfl _ _ _ _ _ _ L _ _ _ _ _ ?_ ?_ ?_ ?_⟩ <;> first | omega | (simp; done))
      | (refine ⟨_, w.heap.size + 4, w.heap.size + 3, rfl, mva_begin w _ _ _ rfl _ _ _ _ _ _ L _ _ _ _ _ ?_ ?_ ?_ ?_⟩ <;> first | omega | (simp; done))
      | (refine ⟨_, w.heap.size + 4, w.heap.size + 5, rfl, mva_begin w _ _ _ rfl _ _ _ _ _ _ L _ _ _ _ _ ?_ ?_ ?_ ?_⟩ <;> first | omega | (simp; done))
      | (refine ⟨_, w.heap.size + 5, w.heap.size + 3, rfl, mva_begin w _ _ _ rfl _ _ _ _ _ _ L _ _ _ _ _ ?_ ?_ ?_ ?_⟩ <;> first | omega | (simp; done))
      | (refine ⟨_, w.heap.size + 5, w.heap.size + 4, rfl, mva_begin w _ _ _ rfl _ _ _ _ _ _ L _ _ _ _ _ ?_ ?_ ?_ ?_⟩ <;> first | omega | (simp; done))
  case rest =>
    obtain ⟨bD, bS, bM, rfl, hA⟩ := hcut
    have HA0 := Lib.hid hA
    have hcb0 := hA.box.cell 0
    simp only [List.getElem?_cons_zero] at hcb0
    clear hA hmk1 hmk2
    go_wp2_with fail
    go_loopg [28] S.length (fun g i wr => ∃ c : Nat, c ≤ S.length ∧ g = S.length - c ∧ i = .int .i64 c ∧ MvA w wr [.slice aS S.length cS, .slice aM M.length cM, .int .i64 L] (.func (.func G) #[] capG) L S.length M.length bD bS bM (msTo S gs c) (List.replicate M.length 0))
    case atStart => exact ⟨0, Nat.zero_le _, rfl, rfl, HA0.out⟩
    case round =>
      clear HA0 hcb0
      obtain ⟨c, hc, rfl, rfl, hA⟩ := hrel
      have HA := Lib.hid hA
      clear hA
      by_cases hcl : c < S.length
      · obtain ⟨b, off, hab, _, hcS⟩ := (HS.out.later HA.out.below).open (by omega)
        subst hab
        have hcc := hcS c hcl
        have hcD := HA.out.D.cell 0
        simp only [List.getElem?_cons_zero] at hcD
        have hcX := HA.out.S.int c (by rw [msTo_len]; exact hcl)
        have hfX := HA.out.S.frozen c
        have HKw := Lib.hid (HK.out wr.drew c HA.out.below.drew (by omega))
        have hb1 := Hb1.out c
        have hb2 := Hg1.out c (by omega)
        have hb3 := Hsg.out c (by omega)
        have HA2 : Hid (∀ w', Below wr.drew.heap.size wr.drew w' → MvA w w' [.slice (some ⟨b, off, none⟩) S.length cS, .slice aM M.length cM, .int .i64 L] (.func (.func G) #[] capG) L S.length M.length bD bS bM (msTo S gs c) (List.replicate M.length 0)) := Lib.hid fun w' h => HA.out.up ((Below.refl _ _).drew.trans h)
        have Hcc2 : Hid (∀ w', Below wr.drew.heap.size wr.drew w' → w'.cell? ⟨b, off + c, none⟩ = some (.int .i64 (nth S c))) := Lib.hid fun w' h => (((Below.refl _ _).drew.trans h).cell (p := ⟨b, off + c, none⟩) (World.block_lt_of_cell? _ _ hcc)).trans hcc
        have Hst : Hid (∀ w', Below wr.drew.heap.size wr.drew w' → MvA w (w'.setCell ⟨bS, c, none⟩ (.int .i64 (nth S c * gs c))) [.slice (some ⟨b, off, none⟩) S.length cS, .slice aM M.length cM, .int .i64 L] (.func (.func G) #[] capG) L S.length M.length bD bS bM (msTo S gs (c + 1)) (List.replicate M.length 0)) := Lib.hid fun w' h => by
          obtain ⟨k1, k2, k3, k4, k5, k6, k7, k8, k9⟩ := HA2.out w' h
          exact ⟨k1.setOther _ _ k9.1, k2.setInt c _, k3.setOther _ _ (fun e => k9.2.2 e.symm), k4.setOther _ _ (by simp; omega), k5.setOther _ _ (by simp; omega), k6.setOther _ _ (by simp; omega), k7.setCell (by simp; omega) _, k8, k9⟩
        have HcX2 : Hid (∀ w', Below wr.drew.heap.size wr.drew w' → w'.cell? ⟨bS, c, none⟩ = some (.int .i64 (nth (msTo S gs c) c)) ∧ w'.frozen? ⟨bS, c, none⟩ = false ∧ w'.cell? ⟨bD, 0, none⟩ = some (.slice (some ⟨bS, 0, none⟩) S.length S.length)) := Lib.hid fun w' h => ⟨(HA2.out w' h).S.int c (by rw [msTo_len]; exact hcl), (HA2.out w' h).S.frozen c, (HA2.out w' h).D.cell 0⟩
        generalize nth (msTo S gs c) c = xv at *
        generalize nth S c = s at *
        generalize gs c = gc at *
        clear hcS
        go_wp2_with fail
        go_region_with (refine HKw.out.mono ?_; rintro e w' ⟨rfl, hbk⟩; obtain ⟨gx1, gx2, gx3⟩ := HcX2.out w' hbk; have gx4 := Hcc2.out w' hbk)
        all_goals
          go_wp2_with fail
          go_roundg (S.length - (c + 1))
          case measure => omega
          case rel => exact ⟨c + 1, by omega, rfl, by go_num, Hst.out w' hbk⟩
      · obtain rfl : c = S.length := by omega
        have hcb1 := HA.out.box.cell 1
        simp only [List.getElem?_cons_succ, List.getElem?_cons_zero] at hcb1
        go_wp2_with fail
        go_loopg [46] M.length (fun g i wr => ∃ h : Nat, h ≤ M.length ∧ g = M.length - h ∧ i = .int .i64 h ∧ MvA w wr [.slice aS S.length cS, .slice aM M.length cM, .int .i64 L] (.func (.func G) #[] capG) L S.length M.length bD bS bM (msTo S gs S.length) (mvTo (fun h => tn h (gb (h / 4) (h % 4))) M h))
        case atStart => exact ⟨0, Nat.zero_le _, rfl, rfl, HA.out⟩
        case round =>
          clear HA hcb1
          obtain ⟨h, hh, rfl, rfl, hA⟩ := hrel
          have HA := Lib.hid hA
          clear hA
          by_cases hhl : h < M.length
          · obtain ⟨b, off, hab, _, hcM⟩ := (HM.out.later HA.out.below).open (by omega)
            subst hab
            obtain ⟨hm1, hm2⟩ := Hmt.out h (by omega)
            have hcc := hcM h hhl
            rw [hm1] at hcc
            have hcD := HA.out.D.cell 1
            simp only [List.getElem?_cons_succ, List.getElem?_cons_zero] at hcD
            have hd1 := Hgb.out (h / 4) (h % 4) (by omega) (by omega)
            have hd2 := Hgb.out (mt M h / 4) (mt M h % 4) (by omega) (by omega)
            have Hc1 := Lib.hid (movc_any wr.drew (w.heap.size + 1) G capG h gb HcG.out HA.out.fn (by omega) hd1 (HG.out wr.drew (h / 4) (h % 4) HA.out.below.drew (by omega) (by omega)))
            have Hc2 := Lib.hid (movc_any wr.drew (w.heap.size + 1) G capG (mt M h) gb HcG.out HA.out.fn (by omega) hd2 (HG.out wr.drew (mt M h / 4) (mt M h % 4) HA.out.below.drew (by omega) (by omega)))
            have hlt1 : tn h (gb (h / 4) (h % 4)) < M.length := by have := tn_lt h n (gb (h / 4) (h % 4)) (by omega); omega
            have hcX := HA.out.M.int (tn h (gb (h / 4) (h % 4))) (by rw [mvTo_len]; exact hlt1)
            have hfX := HA.out.M.frozen (tn h (gb (h / 4) (h % 4)))
            have Hst : Hid (MvA w ((wr.setCell ⟨bM, tn h (gb (h / 4) (h % 4)), none⟩ (.int .i64 ((tn (mt M h) (gb (mt M h / 4) (mt M h % 4)) : Nat) : Int))).drew) [.slice aS S.length cS, .slice (some ⟨b, off, none⟩) M.length cM, .int .i64 L] (.func (.func G) #[] capG) L S.length M.length bD bS bM (msTo S gs S.length) (mvTo (fun h => tn h (gb (h / 4) (h % 4))) M (h + 1))) := Lib.hid (by
              obtain ⟨k1, k2, k3, k4, k5, k6, k7, k8, k9⟩ := HA.out
              exact ⟨k1.setOther _ _ k9.2.1, k2.setOther _ _ k9.2.2, k3.setInt _ _, k4.setOther _ _ (by simp; omega), k5.setOther _ _ (by simp; omega), k6.setOther _ _ (by simp; omega), (k7.setCell (by simp; omega) _).drew, k8, k9⟩)
            generalize tn h (gb (h / 4) (h % 4)) = x1 at *
            generalize tn (mt M h) (gb (mt M h / 4) (mt M h % 4)) = x2 at *
            generalize nth (mvTo (fun h => tn h (gb (h / 4) (h % 4))) M h) x1 = x3 at *
            generalize mt M h = m at *
            clear hcM hm1 hd1 hd2
            go_wp2_with fail
            go_region_with (first | (with_reducible refine Hc1.out.mono ?_; rintro e w' ⟨rfl, rfl⟩) | (with_reducible refine Hc2.out.mono ?_; rintro e w' ⟨rfl, rfl⟩))
            all_goals
              go_wp2_with fail
              go_roundg (M.length - (h + 1))
              case measure => omega
              case rel => exact ⟨h + 1, by omega, rfl, by go_num, Hst.out⟩
          · obtain rfl : h = M.length := by omega
            have hcD0 := HA.out.D.cell 0
            have hcD1 := HA.out.D.cell 1
            have hcD2 := HA.out.D.cell 2
            have hcR0 := HA.out.res.cell 0
            have hcR1 := HA.out.res.cell 1
            have hcR2 := HA.out.res.cell 2
            have hfR0 := HA.out.res.frozen 0
            have hfR1 := HA.out.res.frozen 1
            have hfR2 := HA.out.res.frozen 2
            simp only [List.getElem?_cons_succ, List.getElem?_cons_zero] at hcD0 hcD1 hcD2 hcR0 hcR1 hcR2
            go_wp2_with fail
            obtain ⟨Wf, hWf⟩ : ∃ Wf, Wf = ((wr.setCell ⟨w.heap.size + 1 + 1, 0, none⟩ (.slice (some ⟨bS, 0, none⟩) S.length S.length)).setCell ⟨w.heap.size + 1 + 1, 1, none⟩ (.slice (some ⟨bM, 0, none⟩) M.length M.length)).setCell ⟨w.heap.size + 1 + 1, 2, none⟩ (.int .i64 L) := ⟨_, rfl⟩
            rw [← hWf]
            have hRf : Row Wf (w.heap.size + 1 + 1) 24 [.slice (some ⟨bS, 0, none⟩) S.length S.length, .slice (some ⟨bM, 0, none⟩) M.length M.length, .int .i64 L] := by
              rw [hWf]; exact ((HA.out.res.set 0 _).set 1 _).set 2 _
            have Hfin : Hid (Row Wf bS 3 (ints (mulS S gs)) ∧ Row Wf bM 3 (ints (mvL (fun h => tn h (gb (h / 4) (h % 4))) M)) ∧ Below w.heap.size w Wf) := Lib.hid (by
              obtain ⟨k1, k2, k3, k4, k5, k6, k7, k8, k9⟩ := HA.out
              rw [hWf, ← msTo_all]
              exact ⟨((k2.setOther _ _ (by simp; omega)).setOther _ _ (by simp; omega)).setOther _ _ (by simp; omega), ((k3.setOther _ _ (by simp; omega)).setOther _ _ (by simp; omega)).setOther _ _ (by simp; omega), ((k7.setCell (by simp; omega) _).setCell (by simp; omega) _).setCell (by simp; omega) _⟩)
            have hF0 := hRf.cell 0
            have hF1 := hRf.cell 1
            have hF2 := hRf.cell 2
            simp only [List.getElem?_cons_succ, List.getElem?_cons_zero] at hF0 hF1 hF2
            clear hWf hRf hcD0 hcD1 hcD2 hcR0 hcR1 hcR2 hfR0 hfR1 hfR2
            refine bodyPost_ret (v := .agg #[.slice (some ⟨bS, 0, none⟩) S.length S.length, .slice (some ⟨bM, 0, none⟩) M.length M.length, .int .i64 L]) (by simp [results, Try.results113, go_sem, hF0, hF1, hF2]) rfl ?_
            exact ⟨bS, bM, rfl, Hfin.out⟩
end Go.Proofs.Ytkopbcehfbmnmaa
