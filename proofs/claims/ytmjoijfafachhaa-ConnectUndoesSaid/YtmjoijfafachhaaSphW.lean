/- The walk of diagram.spherical. -/
import Derived.Test.YtmjoijfafachhaaPlainA
import Derived.Test.YtmjoijfafachhaaLabelW
import Derived.Test.YtmjoijfafachhaaOutW
import Derived.Test.YtmjoijfafachhaaCycleA
namespace Go.Proofs.Ytmjoijfafachhaa
open Go Go.RowKit
set_option maxRecDepth 100000 in
set_option maxHeartbeats 4000000 in
theorem spherical_any (S M : List Int) (L : Int) (aS aM : Option Addr) (cS cM : Nat) (w : World) (part : List Int) (parts : Nat)
    (hS : S.length ≤ 1000) (hl : M.length = 4 * S.length) (hM : IntsAt w aM M) (hr : ∀ i, i < 4 * S.length → 0 ≤ nth M i ∧ nth M i < 4 * (S.length : Int)) (hinj : Inj (fc M) (4 * S.length))
    (hlab : lbOuter M 1000000 S.length 0 (List.replicate S.length (-1), 0) = some (part, (parts : Int))) (hpl : part.length = S.length) (hpr : ∀ c, c < S.length → 0 ≤ nth part c ∧ nth part c < (parts : Int)) (hpp : parts ≤ S.length) :
    Calls Try.prog 67 #[.agg #[.slice aS S.length cS, .slice aM M.length cM, .int .i64 L]] w fun e w' => e = .returned (.bool (sphL M S.length part parts)) ∧ Below w.heap.size w w' := by
  obtain ⟨i0, hi, hz0, hz1, hz2⟩ := info_parts Try.info3
  obtain ⟨i1, hi1, hy0, hy1, hy2⟩ := info_parts Try.info4
  have Hres : Hid (sphL M S.length part parts = allTwo (sfTo (fc M) (perOf (fc M) (4 * S.length)) part (4 * S.length) (exDec part S.length (List.replicate parts 0)) (4 * S.length)).2) := Lib.hid (by unfold sphL; rfl)
  have HL := Lib.hid hl; clear hl
  have HM := Lib.hid hM; clear hM
  have Hr := Lib.hid hr; clear hr
  have HI := Lib.hid hinj; clear hinj
  have Hlab := Lib.hid hlab; clear hlab
  have Hpl := Lib.hid hpl; clear hpl
  have Hpr := Lib.hid hpr; clear hpr
  go_enter Try.func67, Try.ntmps67
  go_wp2_with fail
  refine (label_any S M L aS aM cS cM _ 1000000 part parts hS (by omega) HL.out (HM.out.later ((Below.refl _ _).alloc (Nat.le_refl _) _)) Hr.out Hlab.out).mono ?_
  rintro e w1 ⟨aP, cP, rfl, hb1, hP⟩
  have Hbox : Hid (Row w1 w.heap.size 24 [.slice aS S.length cS, .slice aM M.length cM, .int .i64 L]) := Lib.hid ((Row.new w #[_, _, _] 24).later hb1 (by simp))
  have hb1' : Below w.heap.size w w1 := below_of ((Below.refl _ _).alloc (Nat.le_refl _) _) hb1 (by simp)
  have hz1' := hb1.size
  rw [World.size_alloc] at hz1' hP
  have HP := Lib.hid hP; clear hP hb1
  generalize hn : S.length = n at *
  have Hn := Lib.hid hn; clear hn
  have hplen := Hpl.out
  rw [hplen]
  have Hplen := Lib.hid hplen; clear hplen
  go_wp2_with (with_reducible refine wpList_make_one rfl (.tmp 18) 22 rfl 3 i0 (.int .i64 0) 8 Try.underlying22 hi hz0 hz1 hz2 rfl .i64 _ parts rfl rfl (by omega) (by omega) ?_)
  have HP1 := Lib.hid HP.out.ints
  have HbW := Lib.hid hb1'; clear hb1' HP
  go_loopg [22] n (fun g i wr => ∃ k : Nat, k ≤ n ∧ g = n - k ∧ i = .int .i64 k ∧ Below w1.heap.size w1 wr ∧ Row wr w1.heap.size 3 (ints (exDec part k (List.replicate parts 0))))
  case atStart =>
    refine ⟨0, Nat.zero_le _, rfl, rfl, (Below.refl _ _).alloc (Nat.le_refl _) _, ?_⟩
    have := Row.new w1 (Array.replicate parts (Value.int .i64 0)) 3
    simpa [ints, exDec] using this
  case round =>
    obtain ⟨k, hk, rfl, rfl, hb, hrow⟩ := hrel
    by_cases hlt : k < n
    · have hbd := exDec_bd part parts k (nth part k).toNat
      have hel := exDec_len part k (List.replicate parts 0)
      rw [List.length_replicate] at hel
      have Hst : Hid (exDec part (k + 1) (List.replicate parts 0) = (exDec part k (List.replicate parts 0)).set (nth part k).toNat (nth (exDec part k (List.replicate parts 0)) (nth part k).toNat - 1)) := Lib.hid (by rw [exDec])
      generalize exDec part k (List.replicate parts 0) = ex at *
      obtain ⟨hp0, hp1⟩ := Hpr.out k hlt
      obtain ⟨bP, oP, rfl, hbP, hcP⟩ := HP1.out.open (by rw [Hplen.out]; omega)
      have hck := hcP k (by rw [Hplen.out]; exact hlt)
      rw [← hb.cell (p := ⟨bP, oP + k, none⟩) hbP] at hck
      obtain ⟨q, hq⟩ := Int.eq_ofNat_of_zero_le hp0
      rw [hq] at hck hp1 hbd Hst
      rw [Int.toNat_natCast] at hbd Hst
      have hq1 : q < parts := by omega
      have hcx := hrow.int q (by omega)
      have hfx := hrow.frozen q
      have Hrow := Lib.hid (hrow.setInt q (nth ex q - 1))
      have Hel := Lib.hid hel
      obtain ⟨hbd1, hbd2⟩ := hbd
      clear hrow hcP hq hp0 hp1 hel
      go_wp2_with fail
      go_roundg (n - (k + 1))
      case measure => omega
      case rel => exact ⟨k + 1, by omega, rfl, by go_num, hb.setCell (Nat.le_refl _) _, by rw [Hst.out]; exact Hrow.out⟩
    · obtain rfl : k = n := by omega
      have hbx := ((Hbox.out.later hb (by omega)).cell 1)
      simp only [List.getElem?_cons_succ, List.getElem?_cons_zero] at hbx
      have hMl := HL.out
      have Hbd := Lib.hid (fun i => exDec_bd part parts k i)
      have hel := exDec_len part k (List.replicate parts 0)
      rw [List.length_replicate] at hel
      generalize exDec part k (List.replicate parts 0) = ex at *
      have Hel := Lib.hid hel
      have Hrow := Lib.hid hrow
      have Hb := Lib.hid hb
      have hsz := hrow.lt
      clear hrow hel hb
      have HMl := Lib.hid hMl; clear hMl
      have hM1 : M.length ≤ 4 * k := by rw [HMl.out]; omega
      have hM2 : 4 * k ≤ M.length := by rw [HMl.out]; omega
      have hbx2 : ∀ o, (wr.alloc o).cell? ⟨w.heap.size, 1, none⟩ = some (.slice aM M.length cM) := fun o => by rw [World.cell?_alloc_lt _ _ _ (by show w.heap.size < _; omega)]; exact hbx
      go_wp2_with (with_reducible refine wpList_make_one rfl (.tmp 35) 68 rfl 4 i1 (.bool false) 1 Try.underlying68 hi1 hy0 hy1 hy2 rfl .i64 _ M.length rfl rfl (by omega) (by omega) ?_)
      obtain ⟨wS, rfl⟩ : ∃ wS : World, wS = wr := ⟨_, rfl⟩
      go_loopg [40] (4 * k) (fun g i wo => ∃ h : Nat, h ≤ 4 * k ∧ g = 4 * k - h ∧ i = .int .i64 h ∧ Below w1.heap.size w1 wo ∧ Row wo w1.heap.size 3 (ints (sfTo (fc M) (perOf (fc M) (4 * k)) part (4 * k) ex h).2) ∧ Row wo wS.heap.size 4 (bools (sfTo (fc M) (perOf (fc M) (4 * k)) part (4 * k) ex h).1))
      case atStart =>
        refine ⟨0, Nat.zero_le _, rfl, rfl, Hb.out.alloc (by omega) _, Hrow.out.alloc _, ?_⟩
        have := Row.new wS (Array.replicate M.length (Value.bool false)) 4
        rw [HMl.out] at this ⊢
        simpa [bools, sfTo] using this
      case round =>
        clear hbx hbx2
        obtain ⟨h, hh, rfl, rfl, hb, hrow, hsee⟩ := hrel
        have hl := sfTo_len (fc M) (perOf (fc M) (4 * k)) part (4 * k) ex h
        have hbd := sfTo_bd (fc M) (perOf (fc M) (4 * k)) part (4 * k) ex _ Hbd.out h
        have Hal := Lib.hid (fun (hk : h < 4 * k) (hun : bth (sfTo (fc M) (perOf (fc M) (4 * k)) part (4 * k) ex h).1 h = false) => mark_along HI.out (fun x hx => perOf_spec HI.out x hx) part ex h hk hun)
        generalize hst : sfTo (fc M) (perOf (fc M) (4 * k)) part (4 * k) ex h = st at *
        have Hst := Lib.hid hst; clear hst
        by_cases hlt : h < 4 * k
        · have hdec : decide (h < M.length) = true := decide_eq_true (by omega)
          have hbx := (((Hbox.out.later hb (by omega)).cell 1))
          simp only [List.getElem?_cons_succ, List.getElem?_cons_zero] at hbx
          have hcs := hsee.bool h (by omega)
          have hfs := hsee.frozen h
          by_cases hun : bth st.1 h = true
          · have HE : Hid (sfTo (fc M) (perOf (fc M) (4 * k)) part (4 * k) ex (h + 1) = st) := Lib.hid (by rw [sfTo, Hst.out, sfRound, if_pos hun])
            rw [hun] at hcs
            have Hrow2 := Lib.hid hrow
            have Hsee2 := Lib.hid hsee
            clear hrow hsee hun
            go_wp2_with fail
            go_roundg (4 * k - (h + 1))
            case measure => omega
            case rel => exact ⟨h + 1, by omega, rfl, by go_num, hb, by rw [HE.out]; exact Hrow2.out, by rw [HE.out]; exact Hsee2.out⟩
          · have HE : Hid (sfTo (fc M) (perOf (fc M) (4 * k)) part (4 * k) ex (h + 1) = (markL (orb (fc M) h (perOf (fc M) (4 * k) h)) st.1, st.2.set (nth part (h / 4)).toNat (nth st.2 (nth part (h / 4)).toNat + 1))) := Lib.hid (by rw [sfTo, Hst.out, sfRound, if_neg hun])
            have hun2 : bth st.1 h = false := by simpa using hun
            have Hmk := Lib.hid (Hal.out hlt hun2)
            rw [hun2] at hcs
            obtain ⟨hp0, hp1⟩ := Hpr.out (h / 4) (by omega)
            obtain ⟨bP, oP, rfl, hbP, hcP⟩ := HP1.out.open (by rw [Hplen.out]; omega)
            have hck := hcP (h / 4) (by rw [Hplen.out]; omega)
            rw [← hb.cell (p := ⟨bP, oP + h / 4, none⟩) hbP] at hck
            obtain ⟨q, hq⟩ := Int.eq_ofNat_of_zero_le hp0
            have hbq := hbd q
            rw [hq] at hck hp1 HE
            rw [Int.toNat_natCast] at HE
            have hq1 : q < parts := by omega
            have hcx := hrow.int q (by rw [hl.2, Hel.out]; exact hq1)
            have hfx := hrow.frozen q
            have Hsee2 := Lib.hid (hsee.setOther ⟨w1.heap.size, q, none⟩ (.int .i64 (nth st.2 q + 1)) (by simp; omega))
            have Hrow2 := Lib.hid (hrow.setInt q (nth st.2 q + 1))
            obtain ⟨hbq1, hbq2⟩ := hbq
            have hpar : (h : Int) / 4 < (k : Int) := by omega
            have Hl := Lib.hid hl
            have Hb2 := Lib.hid hb
            clear hrow hsee hun hun2 hcP hq hp0 hp1 hl hbd Hal
            go_wp2_with fail
            have hper := perOf_spec HI.out h hlt
            have Hper := Lib.hid hper; clear hper
            have Hck := Lib.hid hck
            clear hck hcx hfx hcs hfs hbx hb
            go_loopg [10] (perOf (fc M) (4 * k) h) (fun g gv wi => ∃ j : Nat, j ≤ perOf (fc M) (4 * k) h ∧ g = perOf (fc M) (4 * k) h - j ∧ gv = .int .i64 ((iter (fc M) j h : Nat) : Int) ∧ Below w1.heap.size w1 wi ∧ Row wi w1.heap.size 3 (ints (st.2.set q (nth st.2 q + 1))) ∧ Row wi wS.heap.size 4 (bools (markL (orb (fc M) h j) st.1)))
            case atStart => exact ⟨0, Nat.zero_le _, rfl, rfl, Hb2.out.setCell (Nat.le_refl _) _, Hrow2.out, Hsee2.out⟩
            case round =>
              clear Hb2 Hrow2 Hsee2
              obtain ⟨j, hj, rfl, rfl, hb, hrow, hsee⟩ := hrel
              have hxl := iter_lt (fc M) (4 * k) HI.out.lt j h hlt
              have hmk := Hmk.out j hj
              have Hnx := Lib.hid (show iter (fc M) (j + 1) h = tn (nth M (iter (fc M) j h)).toNat (-1) from rfl)
              have Hms := Lib.hid (show markL (orb (fc M) h (j + 1)) st.1 = (markL (orb (fc M) h j) st.1).set (iter (fc M) j h) true by rw [orb_succ, markL_snoc])
              generalize iter (fc M) j h = x at *
              have hcs := hsee.bool x (by rw [markL_length, Hl.out.1]; exact hxl)
              have hfs := hsee.frozen x
              by_cases hjl : j = perOf (fc M) (4 * k) h
              · rw [hmk, decide_eq_true hjl] at hcs
                have Hj := Lib.hid hjl
                have Hrow2 := Lib.hid hrow
                have Hsee2 := Lib.hid hsee
                clear hmk hrow hsee hjl
                go_wp2_with fail
                go_roundg (4 * k - (h + 1))
                case measure => omega
                case rel => exact ⟨h + 1, by omega, rfl, by go_num, hb, by rw [HE.out]; exact Hrow2.out, by rw [HE.out, ← Hj.out]; exact Hsee2.out⟩
              · rw [hmk, decide_eq_false hjl] at hcs
                have hjl2 : j < perOf (fc M) (4 * k) h := by omega
                obtain ⟨bM, oM, rfl, hbM, hcM⟩ := HM.out.open (by rw [HL.out]; omega)
                have hbW := HbW.out.size
                have hcm := hcM x (by rw [HL.out]; exact hxl)
                have hb3 := hb.setCell (p := ⟨wS.heap.size, x, none⟩) (by simp; omega) (.bool true)
                have hbx := (((Hbox.out.later hb3 (by omega)).cell 1))
                simp only [List.getElem?_cons_succ, List.getElem?_cons_zero] at hbx
                rw [← HbW.out.cell (p := ⟨bM, oM + x, none⟩) hbM, ← hb3.cell (p := ⟨bM, oM + x, none⟩) (by show bM < _; omega)] at hcm
                obtain ⟨hm0, hm1⟩ := Hr.out x hxl
                obtain ⟨m, hm⟩ := Int.eq_ofNat_of_zero_le hm0
                rw [hm] at hcm hm1
                rw [hm, Int.toNat_natCast] at Hnx
                have hML : (x : Int) < (M.length : Int) := by rw [HL.out]; omega
                have Hrow2 := Lib.hid (hrow.setOther ⟨wS.heap.size, x, none⟩ (.bool true) (by simp; omega))
                have Hsee2 := Lib.hid (hsee.setBool x true)
                have Hb3 := Lib.hid hb3
                clear hmk hrow hsee hjl hm hm0 hcM hb3 hb
                go_wp2_with (go_at_call 85; refine (turn_any m (-1) _ (by omega) (by omega) (by omega)).mono ?_; rintro e w' ⟨rfl, rfl⟩)
                go_roundg (perOf (fc M) (4 * k) h - (j + 1))
                case measure => omega
                case rel => exact ⟨j + 1, by omega, rfl, by rw [Hnx.out], Hb3.out, Hrow2.out, by rw [Hms.out]; exact Hsee2.out⟩
        · obtain rfl : h = 4 * k := by omega
          have HF : Hid (sphL M k part parts = allTwo st.2) := Lib.hid (by rw [Hres.out, Hst.out])
          have hl2 : st.2.length = parts := by rw [hl.2, Hel.out]
          have Hl2 := Lib.hid hl2
          have Hrow2 := Lib.hid hrow
          have hbb := below_of HbW.out hb (by omega)
          have Hbb := Lib.hid hbb
          clear hrow hsee hb hbb hl hbd Hal hl2 Hst Hbd
          generalize st.2 = ex2 at *
          go_wp2_with fail
          go_loopg [75] parts (fun g i wi => ∃ q : Nat, q ≤ parts ∧ g = parts - q ∧ i = .int .i64 q ∧ wi = wr ∧ ∀ i, i < q → nth ex2 i = 2)
          case atStart => exact ⟨0, Nat.zero_le _, rfl, rfl, rfl, fun i hi => by omega⟩
          case round =>
            obtain ⟨q, hq, rfl, rfl, rfl, hall⟩ := hrel
            have Hall := Lib.hid hall; clear hall
            by_cases hqp : q < parts
            · have hcx := Hrow2.out.int q (by rw [Hl2.out]; exact hqp)
              by_cases h2 : nth ex2 q = 2
              · have ht : (nth ex2 q != 2) = false := by rw [h2]; rfl
                have H2 := Lib.hid h2; clear h2
                go_wp2_with fail
                go_roundg (parts - (q + 1))
                case measure => omega
                case rel =>
                  refine ⟨q + 1, by omega, rfl, by go_num, rfl, fun i hi => ?_⟩
                  rcases Nat.lt_or_ge i q with h | h
                  · exact Hall.out i h
                  · obtain rfl : i = q := by omega
                    exact H2.out
              · have ht : (nth ex2 q != 2) = true := by simpa using h2
                have hfin : sphL M k part parts = false := by
                  rw [HF.out]
                  unfold allTwo
                  rw [List.all_eq_false]
                  exact ⟨nth ex2 q, nth_mem _ _ (by rw [Hl2.out]; exact hqp), by simpa using h2⟩
                have Hfin := Lib.hid hfin
                clear hfin h2
                go_wp2_with fail
                go_ret
                rw [Hn.out, Hfin.out]
                exact ⟨rfl, Hbb.out⟩
            · have hfin : sphL M k part parts = true := by
                rw [HF.out]
                unfold allTwo
                rw [List.all_eq_true]
                intro x hx
                obtain ⟨i, hi, rfl⟩ := mem_nth hx
                have := Hall.out i (by rw [Hl2.out] at hi; omega)
                simpa using this
              have Hfin := Lib.hid hfin
              clear hfin
              go_wp2_with fail
              go_ret
              rw [Hn.out, Hfin.out]
              exact ⟨rfl, Hbb.out⟩
end Go.Proofs.Ytmjoijfafachhaa
