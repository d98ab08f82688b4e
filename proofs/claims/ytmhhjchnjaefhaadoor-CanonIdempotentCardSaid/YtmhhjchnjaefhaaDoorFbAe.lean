/- The walk of diagram.spherical. A region that draws its order, whose operations read and whose callees leave the old blocks alone: one walk of the text's order, in a class of worlds. The walk of diagram.Valid. The walks of diagram.Strands and Components. -/
import Derived.WalkKit
import Derived.WalkSpells
import Derived.WalkLawsBesides
import Derived.Deep.AppendSrc
import Derived.Deep.LoopGhost
import Derived.Deep.QuietTactic
import Derived.Deep.RegionWith
import Derived.Deep.DeepMust
import Derived.Deep.DeepFit
import Derived.BigQuiet
import Derived.Lib.Hide
import Derived.Outline
import Derived.Test.YtmhhjchnjaefhaaDoorProg
import Derived.Test.YtmhhjchnjaefhaaDoorFbAa
import Derived.Test.YtmhhjchnjaefhaaDoorFbAc
import Derived.Test.YtmhhjchnjaefhaaDoorFbAd
namespace Go.Proofs.YtmhhjchnjaefhaaDoor
open Go Go.RowKit
set_option maxRecDepth 100000 in
set_option maxHeartbeats 4000000 in
theorem spherical_any (S M : List Int) (L : Int) (aS aM : Option Addr) (cS cM : Nat) (w : World) (part : List Int) (parts : Nat)
    (hS : S.length ≤ 1000) (hl : M.length = 4 * S.length) (hM : IntsAt w aM M) (hr : ∀ i, i < 4 * S.length → 0 ≤ nth M i ∧ nth M i < 4 * (S.length : Int)) (hinj : Inj (fc M) (4 * S.length))
    (hlab : lbOuter M 1000000 S.length 0 (List.replicate S.length (-1), 0) = some (part, (parts : Int))) (hpl : part.length = S.length) (hpr : ∀ c, c < S.length → 0 ≤ nth part c ∧ nth part c < (parts : Int)) (hpp : parts ≤ S.length) :
    Calls Tryd.prog 49 #[.agg #[.slice aS S.length cS, .slice aM M.length cM, .int .i64 L]] w fun e w' => e = .returned (.bool (sphL M S.length part parts)) ∧ Below w.heap.size w w' := by
  obtain ⟨i0, hi, hz0, hz1, hz2⟩ := info_parts Tryd.info3
  obtain ⟨i1, hi1, hy0, hy1, hy2⟩ := info_parts Tryd.info4
  have Hres : Hid (sphL M S.length part parts = allTwo (sfTo (fc M) (perOf (fc M) (4 * S.length)) part (4 * S.length) (exDec part S.length (List.replicate parts 0)) (4 * S.length)).2) := Lib.hid (by unfold sphL; rfl)
  have HL := Lib.hid hl; clear hl
  have HM := Lib.hid hM; clear hM
  have Hr := Lib.hid hr; clear hr
  have HI := Lib.hid hinj; clear hinj
  have Hlab := Lib.hid hlab; clear hlab
  have Hpl := Lib.hid hpl; clear hpl
  have Hpr := Lib.hid hpr; clear hpr
  go_enter Tryd.func49, Tryd.ntmps49
  go_wp2_with fail
  refine (label_any S M L aS aM cS cM _ 1000000 part parts hS (by omega) HL.out (HM.out.later ((Below.refl _ _).alloc (Nat.le_refl _) _)) Hr.out Hlab.out).mono ?_
  rintro e w1 ⟨aP, cP, rfl, hb1, hP⟩
  have Hbox : Hid (Row w1 w.heap.size 24 [.slice aS S.length cS, .slice aM M.length cM, .int .i64 L]) := Lib.hid ((Row.new w #[_, _, _] 24).later hb1 (by simp))
  have hb1' : Below w.heap.size w w1 := below_of ((Below.refl _ _).alloc (Nat.le_refl _) _) hb1 (by simp)
  have hz1' := hb1.size
  rw [World.size_alloc] at hz1' hP
  have HP := Lib.hid hP; clear hP hb1
  generalize hn : S.length = n at *
  have Hn := Lib.hid hn; clear hn
  have hplen := Hpl.out
  rw [hplen]
  have Hplen := Lib.hid hplen; clear hplen
  go_wp2_with (with_reducible refine wpList_make_one rfl (.tmp 18) 22 rfl 3 i0 (.int .i64 0) 8 Tryd.underlying22 hi hz0 hz1 hz2 rfl .i64 _ parts rfl rfl (by omega) (by omega) ?_)
  have HP1 := Lib.hid HP.out.ints
  have HbW := Lib.hid hb1'; clear hb1' HP
  go_loopg [22] n (fun g i wr => ∃ k : Nat, k ≤ n ∧ g = n - k ∧ i = .int .i64 k ∧ Below w1.heap.size w1 wr ∧ Row wr w1.heap.size 3 (ints (exDec part k (List.replicate parts 0))))
  case atStart =>
    refine ⟨0, Nat.zero_le _, rfl, rfl, (Below.refl _ _).alloc (Nat.le_refl _) _, ?_⟩
    have := Row.new w1 (Array.replicate parts (Value.int .i64 0)) 3
    simpa [ints, exDec] using this
  case round =>
    obtain ⟨k, hk, rfl, rfl, hb, hrow⟩ := hrel
    by_cases hlt : k < n
    · have hbd := exDec_bd part parts k (nth part k).toNat
      have hel := exDec_len part k (List.replicate parts 0)
      rw [List.length_replicate] at hel
      have Hst : Hid (exDec part (k + 1) (List.replicate parts 0) = (exDec part k (List.replicate parts 0)).set (nth part k).toNat (nth (exDec part k (List.replicate parts 0)) (nth part k).toNat - 1)) := Lib.hid (by rw [exDec])
      generalize exDec part k (List.replicate parts 0) = ex at *
      obtain ⟨hp0, hp1⟩ := Hpr.out k hlt
      obtain ⟨bP, oP, rfl, hbP, hcP⟩ := HP1.out.open (by rw [Hplen.out]; omega)
      have hck := hcP k (by rw [Hplen.out]; exact hlt)
      rw [← hb.cell (p := ⟨bP, oP + k, none⟩) hbP] at hck
      obtain ⟨q, hq⟩ := Int.eq_ofNat_of_zero_le hp0
      rw [hq] at hck hp1 hbd Hst
      rw [Int.toNat_natCast] at hbd Hst
      have hq1 : q < parts := by omega
      have hcx := hrow.int q (by omega)
      have hfx := hrow.frozen q
      have Hrow := Lib.hid (hrow.setInt q (nth ex q - 1))
      have Hel := Lib.hid hel
      obtain ⟨hbd1, hbd2⟩ := hbd
      clear hrow hcP hq hp0 hp1 hel
      go_wp2_with fail
      go_roundg (n - (k + 1))
      case measure => omega
      case rel => exact ⟨k + 1, by omega, rfl, by go_num, hb.setCell (Nat.le_refl _) _, by rw [Hst.out]; exact Hrow.out⟩
    · obtain rfl : k = n := by omega
      have hbx := ((Hbox.out.later hb (by omega)).cell 1)
      simp only [List.getElem?_cons_succ, List.getElem?_cons_zero] at hbx
      have hMl := HL.out
      have Hbd := Lib.hid (fun i => exDec_bd part parts k i)
      have hel := exDec_len part k (List.replicate parts 0)
      rw [List.length_replicate] at hel
      generalize exDec part k (List.replicate parts 0) = ex at *
      have Hel := Lib.hid hel
      have Hrow := Lib.hid hrow
      have Hb := Lib.hid hb
      have hsz := hrow.lt
      clear hrow hel hb
      have HMl := Lib.hid hMl; clear hMl
      have hM1 : M.length ≤ 4 * k := by rw [HMl.out]; omega
      have hM2 : 4 * k ≤ M.length := by rw [HMl.out]; omega
      have hbx2 : ∀ o, (wr.alloc o).cell? ⟨w.heap.size, 1, none⟩ = some (.slice aM M.length cM) := fun o => by rw [World.cell?_alloc_lt _ _ _ (by show w.heap.size < _; omega)]; exact hbx
      go_wp2_with (with_reducible refine wpList_make_one rfl (.tmp 35) 77 rfl 4 i1 (.bool false) 1 Tryd.underlying77 hi1 hy0 hy1 hy2 rfl .i64 _ M.length rfl rfl (by omega) (by omega) ?_)
      obtain ⟨wS, rfl⟩ : ∃ wS : World, wS = wr := ⟨_, rfl⟩
      go_loopg [40] (4 * k) (fun g i wo => ∃ h : Nat, h ≤ 4 * k ∧ g = 4 * k - h ∧ i = .int .i64 h ∧ Below w1.heap.size w1 wo ∧ Row wo w1.heap.size 3 (ints (sfTo (fc M) (perOf (fc M) (4 * k)) part (4 * k) ex h).2) ∧ Row wo wS.heap.size 4 (bools (sfTo (fc M) (perOf (fc M) (4 * k)) part (4 * k) ex h).1))
      case atStart =>
        refine ⟨0, Nat.zero_le _, rfl, rfl, Hb.out.alloc (by omega) _, Hrow.out.alloc _, ?_⟩
        have := Row.new wS (Array.replicate M.length (Value.bool false)) 4
        rw [HMl.out] at this ⊢
        simpa [bools, sfTo] using this
      case round =>
        clear hbx hbx2
        obtain ⟨h, hh, rfl, rfl, hb, hrow, hsee⟩ := hrel
        have hl := sfTo_len (fc M) (perOf (fc M) (4 * k)) part (4 * k) ex h
        have hbd := sfTo_bd (fc M) (perOf (fc M) (4 * k)) part (4 * k) ex _ Hbd.out h
        have Hal := Lib.hid (fun (hk : h < 4 * k) (hun : bth (sfTo (fc M) (perOf (fc M) (4 * k)) part (4 * k) ex h).1 h = false) => mark_along HI.out (fun x hx => perOf_spec HI.out x hx) part ex h hk hun)
        generalize hst : sfTo (fc M) (perOf (fc M) (4 * k)) part (4 * k) ex h = st at *
        have Hst := Lib.hid hst; clear hst
        by_cases hlt : h < 4 * k
        · have hdec : decide (h < M.length) = true := decide_eq_true (by omega)
          have hbx := (((Hbox.out.later hb (by omega)).cell 1))
          simp only [List.getElem?_cons_succ, List.getElem?_cons_zero] at hbx
          have hcs := hsee.bool h (by omega)
          have hfs := hsee.frozen h
          by_cases hun : bth st.1 h = true
          · have HE : Hid (sfTo (fc M) (perOf (fc M) (4 * k)) part (4 * k) ex (h + 1) = st) := Lib.hid (by rw [sfTo, Hst.out, sfRound, if_pos hun])
            rw [hun] at hcs
            have Hrow2 := Lib.hid hrow
            have Hsee2 := Lib.hid hsee
            clear hrow hsee hun
            go_wp2_with fail
            go_roundg (4 * k - (h + 1))
            case measure => omega
            case rel => exact ⟨h + 1, by omega, rfl, by go_num, hb, by rw [HE.out]; exact Hrow2.out, by rw [HE.out]; exact Hsee2.out⟩
          · have HE : Hid (sfTo (fc M) (perOf (fc M) (4 * k)) part (4 * k) ex (h + 1) = (markL (orb (fc M) h (perOf (fc M) (4 * k) h)) st.1, st.2.set (nth part (h / 4)).toNat (nth st.2 (nth part (h / 4)).toNat + 1))) := Lib.hid (by rw [sfTo, Hst.out, sfRound, if_neg hun])
            have hun2 : bth st.1 h = false := by simpa using hun
            have Hmk := Lib.hid (Hal.out hlt hun2)
            rw [hun2] at hcs
            obtain ⟨hp0, hp1⟩ := Hpr.out (h / 4) (by omega)
            obtain ⟨bP, oP, rfl, hbP, hcP⟩ := HP1.out.open (by rw [Hplen.out]; omega)
            have hck := hcP (h / 4) (by rw [Hplen.out]; omega)
            rw [← hb.cell (p := ⟨bP, oP + h / 4, none⟩) hbP] at hck
            obtain ⟨q, hq⟩ := Int.eq_ofNat_of_zero_le hp0
            have hbq := hbd q
            rw [hq] at hck hp1 HE
            rw [Int.toNat_natCast] at HE
            have hq1 : q < parts := by omega
            have hcx := hrow.int q (by rw [hl.2, Hel.out]; exact hq1)
            have hfx := hrow.frozen q
            have Hsee2 := Lib.hid (hsee.setOther ⟨w1.heap.size, q, none⟩ (.int .i64 (nth st.2 q + 1)) (by simp; omega))
            have Hrow2 := Lib.hid (hrow.setInt q (nth st.2 q + 1))
            obtain ⟨hbq1, hbq2⟩ := hbq
            have hpar : (h : Int) / 4 < (k : Int) := by omega
            have Hl := Lib.hid hl
            have Hb2 := Lib.hid hb
            clear hrow hsee hun hun2 hcP hq hp0 hp1 hl hbd Hal
            go_wp2_with fail
            have hper := perOf_spec HI.out h hlt
            have Hper := Lib.hid hper; clear hper
            have Hck := Lib.hid hck
            clear hck hcx hfx hcs hfs hbx hb
            go_loopg [10] (perOf (fc M) (4 * k) h) (fun g gv wi => ∃ j : Nat, j ≤ perOf (fc M) (4 * k) h ∧ g = perOf (fc M) (4 * k) h - j ∧ gv = .int .i64 ((iter (fc M) j h : Nat) : Int) ∧ Below w1.heap.size w1 wi ∧ Row wi w1.heap.size 3 (ints (st.2.set q (nth st.2 q + 1))) ∧ Row wi wS.heap.size 4 (bools (markL (orb (fc M) h j) st.1)))
            case atStart => exact ⟨0, Nat.zero_le _, rfl, rfl, Hb2.out.setCell (Nat.le_refl _) _, Hrow2.out, Hsee2.out⟩
            case round =>
              clear Hb2 Hrow2 Hsee2
              obtain ⟨j, hj, rfl, rfl, hb, hrow, hsee⟩ := hrel
              have hxl := iter_lt (fc M) (4 * k) HI.out.lt j h hlt
              have hmk := Hmk.out j hj
              have Hnx := Lib.hid (show iter (fc M) (j + 1) h = tn (nth M (iter (fc M) j h)).toNat (-1) from rfl)
              have Hms := Lib.hid (show markL (orb (fc M) h (j + 1)) st.1 = (markL (orb (fc M) h j) st.1).set (iter (fc M) j h) true by rw [orb_succ, markL_snoc])
              generalize iter (fc M) j h = x at *
              have hcs := hsee.bool x (by rw [markL_length, Hl.out.1]; exact hxl)
              have hfs := hsee.frozen x
              by_cases hjl : j = perOf (fc M) (4 * k) h
              · rw [hmk, decide_eq_true hjl] at hcs
                have Hj := Lib.hid hjl
                have Hrow2 := Lib.hid hrow
                have Hsee2 := Lib.hid hsee
                clear hmk hrow hsee hjl
                go_wp2_with fail
                go_roundg (4 * k - (h + 1))
                case measure => omega
                case rel => exact ⟨h + 1, by omega, rfl, by go_num, hb, by rw [HE.out]; exact Hrow2.out, by rw [HE.out, ← Hj.out]; exact Hsee2.out⟩
              · rw [hmk, decide_eq_false hjl] at hcs
                have hjl2 : j < perOf (fc M) (4 * k) h := by omega
                obtain ⟨bM, oM, rfl, hbM, hcM⟩ := HM.out.open (by rw [HL.out]; omega)
                have hbW := HbW.out.size
                have hcm := hcM x (by rw [HL.out]; exact hxl)
                have hb3 := hb.setCell (p := ⟨wS.heap.size, x, none⟩) (by simp; omega) (.bool true)
                have hbx := (((Hbox.out.later hb3 (by omega)).cell 1))
                simp only [List.getElem?_cons_succ, List.getElem?_cons_zero] at hbx
                rw [← HbW.out.cell (p := ⟨bM, oM + x, none⟩) hbM, ← hb3.cell (p := ⟨bM, oM + x, none⟩) (by show bM < _; omega)] at hcm
                obtain ⟨hm0, hm1⟩ := Hr.out x hxl
                obtain ⟨m, hm⟩ := Int.eq_ofNat_of_zero_le hm0
                rw [hm] at hcm hm1
                rw [hm, Int.toNat_natCast] at Hnx
                have hML : (x : Int) < (M.length : Int) := by rw [HL.out]; omega
                have Hrow2 := Lib.hid (hrow.setOther ⟨wS.heap.size, x, none⟩ (.bool true) (by simp; omega))
                have Hsee2 := Lib.hid (hsee.setBool x true)
                have Hb3 := Lib.hid hb3
                clear hmk hrow hsee hjl hm hm0 hcM hb3 hb
                go_wp2_with (go_at_call 60; refine (turn_any m (-1) _ (by omega) (by omega) (by omega)).mono ?_; rintro e w' ⟨rfl, rfl⟩)
                go_roundg (perOf (fc M) (4 * k) h - (j + 1))
                case measure => omega
                case rel => exact ⟨j + 1, by omega, rfl, by rw [Hnx.out], Hb3.out, Hrow2.out, by rw [Hms.out]; exact Hsee2.out⟩
        · obtain rfl : h = 4 * k := by omega
          have HF : Hid (sphL M k part parts = allTwo st.2) := Lib.hid (by rw [Hres.out, Hst.out])
          have hl2 : st.2.length = parts := by rw [hl.2, Hel.out]
          have Hl2 := Lib.hid hl2
          have Hrow2 := Lib.hid hrow
          have hbb := below_of HbW.out hb (by omega)
          have Hbb := Lib.hid hbb
          clear hrow hsee hb hbb hl hbd Hal hl2 Hst Hbd
          generalize st.2 = ex2 at *
          go_wp2_with fail
          go_loopg [75] parts (fun g i wi => ∃ q : Nat, q ≤ parts ∧ g = parts - q ∧ i = .int .i64 q ∧ wi = wr ∧ ∀ i, i < q → nth ex2 i = 2)
          case atStart => exact ⟨0, Nat.zero_le _, rfl, rfl, rfl, fun i hi => by omega⟩
          case round =>
            obtain ⟨q, hq, rfl, rfl, rfl, hall⟩ := hrel
            have Hall := Lib.hid hall; clear hall
            by_cases hqp : q < parts
            · have hcx := Hrow2.out.int q (by rw [Hl2.out]; exact hqp)
              by_cases h2 : nth ex2 q = 2
              · have ht : (nth ex2 q != 2) = false := by rw [h2]; rfl
                have H2 := Lib.hid h2; clear h2
                go_wp2_with fail
                go_roundg (parts - (q + 1))
                case measure => omega
                case rel =>
                  refine ⟨q + 1, by omega, rfl, by go_num, rfl, fun i hi => ?_⟩
                  rcases Nat.lt_or_ge i q with h | h
                  · exact Hall.out i h
                  · obtain rfl : i = q := by omega
                    exact H2.out
              · have ht : (nth ex2 q != 2) = true := by simpa using h2
                have hfin : sphL M k part parts = false := by
                  rw [HF.out]
                  unfold allTwo
                  rw [List.all_eq_false]
                  exact ⟨nth ex2 q, nth_mem _ _ (by rw [Hl2.out]; exact hqp), by simpa using h2⟩
                have Hfin := Lib.hid hfin
                clear hfin h2
                go_wp2_with fail
                go_ret
                rw [Hn.out, Hfin.out]
                exact ⟨rfl, Hbb.out⟩
            · have hfin : sphL M k part parts = true := by
                rw [HF.out]
                unfold allTwo
                rw [List.all_eq_true]
                intro x hx
                obtain ⟨i, hi, rfl⟩ := mem_nth hx
                have := Hall.out i (by rw [Hl2.out] at hi; omega)
                simpa using this
              have Hfin := Lib.hid hfin
              clear hfin
              go_wp2_with fail
              go_ret
              rw [Hn.out, Hfin.out]
              exact ⟨rfl, Hbb.out⟩
end Go.Proofs.YtmhhjchnjaefhaaDoor


namespace Go.Proofs.YtmhhjchnjaefhaaDoor
open Go Go.RowKit
section
variable {P : Program} {ops : Array Oper} {C : World → Prop} {Q : Act → Prop} {a : Act} {o : Oper} {rest : List Oper}
theorem wp_region_class {id : Nat} {Q : Exit → Act → World → Prop} {w : World} {l : List Oper} (C : World → Prop) (hm : P.follows .mixedOrders = true) (hB : Region.lexB .any l.toArray = true) (hC : C w.drew)
    (h : wpQuiet P l.toArray C (fun a' => ∀ w', C w' → Q .normal a' w') l a) : (Code.region id l.toArray true).wp P Q a w :=
  wp_region_quiet (C := C) hm hB hC (by simpa using h)
theorem wpQuiet_val (v : Value) (hg : o.guard = none) (hv : ∀ W, C W → (execOp a.eval o).run P W = .ok (.value v) W) (h : wpQuiet P ops C Q rest (a.put o.dst v)) : wpQuiet P ops C Q (o :: rest) a := by
  unfold wpQuiet
  rw [if_pos (by simp [Region.wanted, hg])]
  refine ⟨v, fun W hW => ?_, h⟩
  unfold Oper.quietAt
  rw [hv W hW]
  exact ⟨rfl, rfl⟩
theorem wpQuiet_move (x : Operand) (v : Value) (hg : o.guard = none) (hop : o.op = .move x) (hx : a.eval x = v) (h : wpQuiet P ops C Q rest (a.put o.dst v)) : wpQuiet P ops C Q (o :: rest) a :=
  wpQuiet_val v hg (fun W _ => by unfold execOp; rw [hop]; simp only [hx]; rfl) h
/-- A call of a named function. -/
theorem wpQuiet_call (v : Value) (f : FuncId) (xs : List Operand) (ts : Array TypeId) (vs : List Value) (hg : o.guard = none) (hop : o.op = .call { callee := .value (.func f), args := xs.toArray, argTypes := ts })
    (hxs : xs.map a.eval = vs) (hf : ∀ args W, (callFunc f args).run P W = .ok (.enter f args) W) (hc : ∀ W, C W → Calls P f vs.toArray W (fun e w' => e = .returned v ∧ C w')) (h : wpQuiet P ops C Q rest (a.put o.dst v)) : wpQuiet P ops C Q (o :: rest) a := by
  unfold wpQuiet
  rw [if_pos (by simp [Region.wanted, hg])]
  refine ⟨v, fun W hW => ?_, h⟩
  unfold Oper.quietAt
  have hr : (execOp a.eval o).run P W = .ok (.enter f vs.toArray) W := by
    simp [execOp, hop, resolve, hxs, Act.eval, Deferred.ofValue, invoke, hf]
  rw [hr]
  exact ⟨rfl, hc W hW⟩
/-- A whole row, loaded as a struct. -/
theorem run_load_row {t b : Nat} {E : TypeId} {vs : List Value} {W : World} (hag : (isAgg t).run P W = .ok true W) (hsz : (sizeOf t).run P W = .ok vs.length W) (h : Row W b E vs) :
    (Instr.loadAt t (.pointer (some ⟨b, 0, none⟩))).run P W = .ok (.agg vs.toArray) W := by
  have hc := run_loadCells_list (P := P) W ⟨b, 0, none⟩ vs (fun j v hj => by rw [Addr.add_lit, Nat.zero_add, h.cell]; exact hj)
  simp [Instr.loadAt, Instr.sureAddr, loadVar, hag, hsz, hc, Result.andThen]
theorem wpQuiet_loadRow (x : Operand) (t b : Nat) (E : TypeId) (vs : List Value) (hg : o.guard = none) (hop : o.op = .load t x) (hx : a.eval x = .pointer (some ⟨b, 0, none⟩))
    (hag : ∀ W, (isAgg t).run P W = .ok true W) (hsz : ∀ W, (sizeOf t).run P W = .ok vs.length W) (hr : ∀ W, C W → Row W b E vs) (h : wpQuiet P ops C Q rest (a.put o.dst (.agg vs.toArray))) : wpQuiet P ops C Q (o :: rest) a :=
  wpQuiet_val _ hg (fun W hW => by simp [execOp, hop, hx, run_load_row (hag W) (hsz W) (hr W hW), Result.andThen]) h
theorem wpQuiet_end {a : Act} (h : Q a) : wpQuiet P ops C Q [] a := h
end
end Go.Proofs.YtmhhjchnjaefhaaDoor


namespace Go.Proofs.YtmhhjchnjaefhaaDoor
open Go Go.RowKit
theorem sphB_eq {M : List Int} {n : Nat} {part : List Int} {parts : Nat} (h : lbOuter M 1000000 n 0 (List.replicate n (-1), 0) = some (part, (parts : Int))) : sphB M n = sphL M n part parts := by
  unfold sphB; rw [h]; simp
set_option maxRecDepth 100000 in
set_option maxHeartbeats 4000000 in
theorem valid_any (S M : List Int) (L : Int) (aS aM : Option Addr) (cS cM : Nat) (w : World) (hSl : S.length ≤ 1000000000) (hMl : M.length ≤ 1000000000) (hS : IntsAt w aS S) (hM : IntsAt w aM M) :
    Calls Tryd.prog 18 #[.agg #[.slice aS S.length cS, .slice aM M.length cM, .int .i64 L]] w fun e w' => e = .returned (.bool (vldB S M L)) ∧ Below w.heap.size w w' := by
  have hB : ∀ o, Below w.heap.size w (w.alloc o) := fun o => (Below.refl _ _).alloc (Nat.le_refl _) o
  by_cases h1 : 64 < S.length
  · have hv : vldB S M L = false := vldB_no fun h => by have := h.few; omega
    have d1 : decide ((64 : Int) < (S.length : Int)) = true := decide_eq_true (by omega)
    rw [hv]
    clear hv h1 hS hM
    go_enter Tryd.func18, Tryd.ntmps18
    go_wp2_with fail
    go_ret
    exact ⟨rfl, hB _⟩
  have d1 : decide ((64 : Int) < (S.length : Int)) = false := decide_eq_false (by omega)
  by_cases h2 : M.length ≠ 4 * S.length
  · have hv : vldB S M L = false := vldB_no fun h => h2 h.len
    have d2 : ((M.length : Int) != 4 * (S.length : Int)) = true := by rw [bne_iff_ne]; omega
    rw [hv]
    clear hv h1 h2 hS hM
    go_enter Tryd.func18, Tryd.ntmps18
    go_wp2_with fail
    go_ret
    exact ⟨rfl, hB _⟩
  have h2' : M.length = 4 * S.length := by omega
  have d2 : ((M.length : Int) != 4 * (S.length : Int)) = false := by rw [h2']; simp
  by_cases h3 : L < 0
  · have hv : vldB S M L = false := vldB_no fun h => by have := h.lo; omega
    have d3 : decide (L < 0) = true := decide_eq_true h3
    rw [hv]
    clear hv h1 h2 h2' h3 hS hM
    go_enter Tryd.func18, Tryd.ntmps18
    go_wp2_with fail
    go_ret
    exact ⟨rfl, hB _⟩
  have d3 : decide (L < 0) = false := decide_eq_false h3
  by_cases h4 : 64 < L
  · have hv : vldB S M L = false := vldB_no fun h => by have := h.hi; omega
    have d4 : decide ((64 : Int) < L) = true := decide_eq_true h4
    rw [hv]
    clear hv h1 h2 h2' h3 h4 hS hM
    go_enter Tryd.func18, Tryd.ntmps18
    go_wp2_with fail
    go_ret
    exact ⟨rfl, hB _⟩
  have d4 : decide ((64 : Int) < L) = false := decide_eq_false h4
  have Hno := Lib.hid (fun (h : ¬ Shape S M L) => vldB_no h)
  have H2 := Lib.hid h2'
  have HS := Lib.hid hS
  have HM := Lib.hid hM
  have hn : S.length ≤ 64 := by omega
  have hl3 : 0 ≤ L := by omega
  have hl4 : L ≤ 64 := by omega
  clear h1 h2 h2' hS hM h3 h4
  go_enter Tryd.func18, Tryd.ntmps18
  go_wp2_with fail
  go_loopg [34] S.length (fun g i wr => ∃ k : Nat, k ≤ S.length ∧ g = S.length - k ∧ i = .int .i64 k ∧ wr = w.alloc (.cells #[.slice aS S.length cS, .slice aM M.length cM, .int .i64 L] 24) ∧ signsTo S k)
  case atStart => exact ⟨0, Nat.zero_le _, rfl, rfl, rfl, fun c hc => by omega⟩
  case round =>
    obtain ⟨k, hk, rfl, rfl, rfl, hsg⟩ := hrel
    have Hsg := Lib.hid hsg; clear hsg
    by_cases hlt : k < S.length
    · obtain ⟨b, off, rfl, hbl, hc⟩ := HS.out.open (by omega)
      have hck := hc k hlt
      rw [← (hB (.cells #[.slice (some ⟨b, off, none⟩) S.length cS, .slice aM M.length cM, .int .i64 L] 24)).cell (p := ⟨b, off + k, none⟩) hbl] at hck
      clear hc
      by_cases h1 : nth S k = 1
      · have t1 : (nth S k != 1) = false := by rw [h1]; rfl
        have H1 := Lib.hid h1; clear h1
        go_wp2_with fail
        go_roundg (S.length - (k + 1))
        case measure => omega
        case rel =>
          refine ⟨k + 1, by omega, rfl, by go_num, rfl, fun c hc => ?_⟩
          rcases Nat.lt_or_ge c k with h | h
          · exact Hsg.out c h
          · obtain rfl : c = k := by omega
            exact .inl H1.out
      · have t1 : (nth S k != 1) = true := by simpa using h1
        by_cases h2 : nth S k = -1
        · have t2 : (nth S k != -1) = false := by rw [h2]; rfl
          have H1 := Lib.hid h2; clear h1 h2
          go_wp2_with fail
          go_roundg (S.length - (k + 1))
          case measure => omega
          case rel =>
            refine ⟨k + 1, by omega, rfl, by go_num, rfl, fun c hc => ?_⟩
            rcases Nat.lt_or_ge c k with h | h
            · exact Hsg.out c h
            · obtain rfl : c = k := by omega
              exact .inr H1.out
        · have t2 : (nth S k != -1) = true := by simpa using h2
          have Hv : Hid (vldB S M L = false) := Lib.hid (Hno.out fun h => (h.sign k hlt).elim h1 h2)
          clear h1 h2
          go_wp2_with fail
          go_ret
          rw [Hv.out]
          exact ⟨rfl, hB _⟩
    · obtain rfl : k = S.length := by omega
      go_wp2_with fail
      have Hbox := Lib.hid (Row.new w #[.slice aS S.length cS, .slice aM M.length cM, .int .i64 L] 24)
      have hM1 : M.length ≤ 4 * S.length := by rw [H2.out]; omega
      have hM2 : 4 * S.length ≤ M.length := by rw [H2.out]; omega
      go_loopg [48] (4 * S.length) (fun g i wr => ∃ h : Nat, h ≤ 4 * S.length ∧ g = 4 * S.length - h ∧ i = .int .i64 h ∧ Below w.heap.size w wr ∧ Row wr w.heap.size 24 [.slice aS S.length cS, .slice aM M.length cM, .int .i64 L] ∧ matesTo S M S.length h)
      case atStart => exact ⟨0, Nat.zero_le _, rfl, rfl, hB _, Hbox.out, fun c hc => by omega⟩
      case round =>
        clear Hbox
        obtain ⟨h, hh, rfl, rfl, hb, hbox, hmt⟩ := hrel
        have Hmt := Lib.hid hmt; clear hmt
        have hz := hbox.lt
        by_cases hlt : h < 4 * S.length
        · obtain ⟨b, off, rfl, hbl, hc⟩ := HM.out.open (by rw [H2.out]; omega)
          have hch := hc h (by rw [H2.out]; exact hlt)
          rw [← hb.cell (p := ⟨b, off + h, none⟩) hbl] at hch
          have hbx := hbox.cell 1
          simp only [List.getElem?_cons_succ, List.getElem?_cons_zero] at hbx
          have hno : ¬ mateOk S M S.length h → vldB S M L = false := fun hn => Hno.out fun hs => hn (hs.mate h hlt)
          have Hno2 := Lib.hid hno; clear hno
          have Hbox := Lib.hid hbox; clear hbox
          have hdec : decide (h < M.length) = true := decide_eq_true (by omega)
          by_cases h1 : nth M h < 0
          · have t1 : decide (nth M h < 0) = true := decide_eq_true h1
            have Hv : Hid (vldB S M L = false) := Lib.hid (Hno2.out fun hs => by have := hs.1; omega)
            clear hc
            go_wp2_with fail
            go_ret
            rw [Hv.out]
            exact ⟨rfl, hb⟩
          have t1 : decide (nth M h < 0) = false := decide_eq_false h1
          by_cases h2 : 4 * (S.length : Int) ≤ nth M h
          · have t2 : decide (4 * (S.length : Int) ≤ nth M h) = true := decide_eq_true h2
            have Hv : Hid (vldB S M L = false) := Lib.hid (Hno2.out fun hs => by have := hs.2.1; omega)
            clear hc h1
            go_wp2_with fail
            go_ret
            rw [Hv.out]
            exact ⟨rfl, hb⟩
          have t2 : decide (4 * (S.length : Int) ≤ nth M h) = false := decide_eq_false h2
          by_cases h3 : nth M h = (h : Int)
          · have t3 : (nth M h == (h : Int)) = true := by simpa using h3
            have Hv : Hid (vldB S M L = false) := Lib.hid (Hno2.out fun hs => hs.2.2.1 h3)
            clear hc h1 h2 h3
            go_wp2_with fail
            go_ret
            rw [Hv.out]
            exact ⟨rfl, hb⟩
          have t3 : (nth M h == (h : Int)) = false := by simpa using h3
          obtain ⟨m, hm⟩ := Int.eq_ofNat_of_zero_le (show 0 ≤ nth M h by omega)
          have hm1 : m < 4 * S.length := by omega
          have hcm := hc m (by rw [H2.out]; exact hm1)
          rw [← hb.cell (p := ⟨b, off + m, none⟩) hbl] at hcm
          have Hok : Hid (mateOk S M S.length h ↔ nth M m = (h : Int) ∧ outB S h ≠ outB S m) := Lib.hid (by
            unfold mateOk
            rw [hm, Int.toNat_natCast]
            exact ⟨fun hs => hs.2.2.2, fun hs => ⟨by omega, by omega, by rw [← hm]; exact h3, hs⟩⟩)
          rw [hm] at hch t1 t2 t3
          clear hc h1 h2 h3 hm
          by_cases h4 : nth M m ≠ (h : Int)
          · have t4 : (nth M m != (h : Int)) = true := by simpa using h4
            have Hv : Hid (vldB S M L = false) := Lib.hid (Hno2.out fun hs => h4 (Hok.out.1 hs).1)
            clear h4
            go_wp2_with fail
            go_ret
            rw [Hv.out]
            exact ⟨rfl, hb⟩
          have h4' : nth M m = (h : Int) := by omega
          have t4 : (nth M m != (h : Int)) = false := by simpa using h4'
          have H4 := Lib.hid h4'; clear h4 h4'
          have HbxC : Hid (∀ W, Below wr.heap.size wr W → Row W w.heap.size 24 [.slice aS S.length cS, .slice (some ⟨b, off, none⟩) M.length cM, .int .i64 L]) := Lib.hid fun W hW => Hbox.out.later hW hz
          have HcO : Hid (∀ (x : Nat), x < 4 * S.length → ∀ W, Below wr.heap.size wr W → Calls Tryd.prog 48 #[.agg #[.slice aS S.length cS, .slice (some ⟨b, off, none⟩) M.length cM, .int .i64 L], .int .i64 (x : Int)] W (fun e w' => e = .returned (.bool (outB S x)) ∧ Below wr.heap.size wr w')) :=
            Lib.hid fun x hx W hW => (outgoing_any S M L aS (some ⟨b, off, none⟩) cS cM x W hx (by omega) (HS.out.later (below_step hb hW))).mono fun e w' ⟨he, hb'⟩ => ⟨he, below_step hW hb'⟩
          go_wp2_with fail
          refine wp_region_class (fun W => Below wr.heap.size wr W) (by kernel_rfl) (by kernel_rfl) ((Below.refl _ _).drew) ?_
          refine wpQuiet_loadRow (.tmp 1) 24 w.heap.size 24 [.slice aS S.length cS, .slice (some ⟨b, off, none⟩) M.length cM, .int .i64 L] rfl rfl rfl Tryd.isAgg24 Tryd.sizeOf24 HbxC.out ?_
          simp only [Act.put, List.setIfInBounds_toArray, List.set_cons_succ, List.set_cons_zero]
          refine wpQuiet_move (.tmp 6) (.int .i64 (h : Int)) rfl rfl rfl ?_
          simp only [Act.put, List.setIfInBounds_toArray, List.set_cons_succ, List.set_cons_zero]
          refine wpQuiet_call (.bool (outB S h)) 48 _ _ [.agg #[.slice aS S.length cS, .slice (some ⟨b, off, none⟩) M.length cM, .int .i64 L], .int .i64 (h : Int)] rfl rfl rfl Tryd.call48 (HcO.out h hlt) ?_
          simp only [Act.put, List.setIfInBounds_toArray, List.set_cons_succ, List.set_cons_zero]
          refine wpQuiet_loadRow (.tmp 1) 24 w.heap.size 24 [.slice aS S.length cS, .slice (some ⟨b, off, none⟩) M.length cM, .int .i64 L] rfl rfl rfl Tryd.isAgg24 Tryd.sizeOf24 HbxC.out ?_
          simp only [Act.put, List.setIfInBounds_toArray, List.set_cons_succ, List.set_cons_zero]
          refine wpQuiet_move (.tmp 7) (.int .i64 (m : Int)) rfl rfl rfl ?_
          simp only [Act.put, List.setIfInBounds_toArray, List.set_cons_succ, List.set_cons_zero]
          refine wpQuiet_call (.bool (outB S m)) 48 _ _ [.agg #[.slice aS S.length cS, .slice (some ⟨b, off, none⟩) M.length cM, .int .i64 L], .int .i64 (m : Int)] rfl rfl rfl Tryd.call48 (HcO.out m hm1) ?_
          simp only [Act.put, List.setIfInBounds_toArray, List.set_cons_succ, List.set_cons_zero]
          refine wpQuiet_val (.bool (outB S h == outB S m)) rfl (fun W _ => ?_) ?_
          · go_simp
          refine wpQuiet_end ?_
          intro w2 hw2
          simp only [Act.put, List.setIfInBounds_toArray, List.set_cons_succ, List.set_cons_zero]
          by_cases h5 : outB S h = outB S m
          · have t5 : (outB S h == outB S m) = true := by simpa using h5
            have Hv : Hid (vldB S M L = false) := Lib.hid (Hno2.out fun hs => (Hok.out.1 hs).2 h5)
            have Hb2 := Lib.hid (below_step hb hw2)
            rw [t5]
            clear h5 t5
            go_wp2_with fail
            go_ret
            rw [Hv.out]
            exact ⟨rfl, Hb2.out⟩
          · have t5 : (outB S h == outB S m) = false := by simpa using h5
            have Hv : Hid (mateOk S M S.length h) := Lib.hid (Hok.out.2 ⟨H4.out, h5⟩)
            have Hb2 := Lib.hid (below_step hb hw2)
            have Hbox2 := Lib.hid (Hbox.out.later hw2 hz)
            rw [t5]
            clear h5 t5
            go_wp2_with fail
            go_roundg (4 * S.length - (h + 1))
            case measure => omega
            case rel =>
              refine ⟨h + 1, by omega, rfl, by go_num, Hb2.out, Hbox2.out, fun c hc => ?_⟩
              rcases Nat.lt_or_ge c h with hc1 | hc1
              · exact Hmt.out c hc1
              · obtain rfl : c = h := by omega
                exact Hv.out
        · obtain rfl : h = 4 * S.length := by omega
          have hshape : Shape S M L := ⟨by omega, H2.out, hl3, hl4, Hsg.out, Hmt.out⟩
          obtain ⟨part, parts, hlab, hL⟩ := label_spec hshape.mates (by omega)
          have Hv : Hid (vldB S M L = sphL M S.length part parts) := Lib.hid (by rw [vldB_yes hshape, sphB_eq hlab])
          have Hlab := Lib.hid hlab
          have HL := Lib.hid hL
          have Hsh := Lib.hid hshape
          have Hbox := Lib.hid hbox
          have hc0 := hbox.cell 0
          have hc1 := hbox.cell 1
          have hc2 := hbox.cell 2
          simp only [List.getElem?_cons_succ, List.getElem?_cons_zero] at hc0 hc1 hc2
          clear hlab hL hshape hbox
          go_wp2_with fail
          refine (spherical_any S M L aS aM cS cM _ part parts (by omega) H2.out (HM.out.later hb) Hsh.out.range Hsh.out.injF Hlab.out HL.out.len HL.out.range HL.out.le).mono ?_
          rintro e w2 ⟨rfl, hb2⟩
          have Hb2 := Lib.hid (below_step hb hb2)
          clear hb2 hb
          go_wp2_with fail
          go_ret
          rw [Hv.out]
          exact ⟨rfl, Hb2.out⟩
end Go.Proofs.YtmhhjchnjaefhaaDoor


namespace Go.Proofs.YtmhhjchnjaefhaaDoor
open Go Go.RowKit
/-- The half-edge behind h along its strand. -/
def sc (M : List Int) (h : Nat) : Nat := tn (nth M h).toNat 2
theorem Shape.injS {S M : List Int} {L : Int} (hs : Shape S M L) : Inj (sc M) (4 * S.length) := by
  refine ⟨fun x hx => tn_lt _ _ _ (hs.toNat_lt x hx), fun x y hx hy he => ?_⟩
  have h1 : (nth M x).toNat = (nth M y).toNat := by
    unfold sc tn at he
    omega
  have h2 := hs.invol x hx
  have h3 := hs.invol y hy
  rw [h1] at h2
  omega
/-- diagram.Strands' answer. -/
def strandsL (S M : List Int) (L : Int) : List (List Nat) := if vldB S M L = true then cycs (sc M) (perOf (sc M) (4 * S.length)) (outB S) (4 * S.length) else []
theorem vldB_shape {S M : List Int} {L : Int} (h : vldB S M L = true) : Shape S M L := by
  unfold vldB at h
  rw [Bool.and_eq_true, shapeB_iff] at h
  exact h.1
set_option maxRecDepth 100000 in
set_option maxHeartbeats 1000000 in
theorem strands1_any (S M : List Int) (L : Int) (aS aM : Option Addr) (cS cM : Nat) (w : World) (b : Nat) (hSl : S.length ≤ 1000000) (hS : IntsAt w aS S) (hbox : Row w b 24 [.slice aS S.length cS, .slice aM M.length cM, .int .i64 L]) :
    BoolFn w 62 #[.pointer (some ⟨b, 0, none⟩)] (4 * S.length) (outB S) := by
  intro W x hW hx
  have hbx := hbox.later hW hbox.lt
  have hc0 := hbx.cell 0
  have hc1 := hbx.cell 1
  have hc2 := hbx.cell 2
  simp only [List.getElem?_cons_succ, List.getElem?_cons_zero] at hc0 hc1 hc2
  have HC := Lib.hid (outgoing_any S M L aS aM cS cM x W hx hSl (hS.later hW))
  clear hS hbox hbx hW
  show Calls Tryd.prog 62 #[.int .i64 (x : Int), .pointer (some ⟨b, 0, none⟩)] W _
  go_enter Tryd.func62, Tryd.ntmps62
  go_wp2_with fail
  refine HC.out.mono ?_
  rintro e w1 ⟨rfl, hb1⟩
  go_wp2_with fail
  go_ret
  exact ⟨rfl, hb1⟩
set_option maxRecDepth 100000 in
set_option maxHeartbeats 1000000 in
theorem strands2_any (S M : List Int) (L : Int) (aS aM : Option Addr) (cS cM : Nat) (w : World) (b : Nat) (hs : Shape S M L) (hM : IntsAt w aM M) (hbox : Row w b 24 [.slice aS S.length cS, .slice aM M.length cM, .int .i64 L]) :
    NatFn w 63 #[.pointer (some ⟨b, 0, none⟩)] (4 * S.length) (sc M) := by
  intro W x hW hx
  have hbx := (hbox.later hW hbox.lt).cell 1
  simp only [List.getElem?_cons_succ, List.getElem?_cons_zero] at hbx
  obtain ⟨b2, off, rfl, hbl, hc⟩ := (hM.later hW).open (by rw [hs.len]; omega)
  have hcx := hc x (by rw [hs.len]; exact hx)
  obtain ⟨hm0, hm1⟩ := hs.range x hx
  have hres : sc M x = tn (nth M x).toNat 2 := rfl
  obtain ⟨m, hm⟩ := Int.eq_ofNat_of_zero_le hm0
  rw [hm, Int.toNat_natCast] at hres
  rw [hm] at hcx hm1
  have Hres := Lib.hid hres
  have hML : (x : Int) < (M.length : Int) := by rw [hs.len]; omega
  have hfw := hs.few
  clear hc hm hm0 hM hbox hW hres hs
  show Calls Tryd.prog 63 #[.int .i64 (x : Int), .pointer (some ⟨b, 0, none⟩)] W _
  go_enter Tryd.func63, Tryd.ntmps63
  go_wp2_with fail
  refine (opposite_any m _ (by omega)).mono ?_
  rintro e w1 ⟨rfl, rfl⟩
  go_wp2_with fail
  go_ret
  rw [Hres.out]
  exact ⟨rfl, Below.refl _ _⟩
set_option maxRecDepth 100000 in
set_option maxHeartbeats 1000000 in
theorem strands_any (S M : List Int) (L : Int) (aS aM : Option Addr) (cS cM : Nat) (w : World) (hSl : S.length ≤ 1000000000) (hMl : M.length ≤ 1000000000) (hS : IntsAt w aS S) (hM : IntsAt w aM M) :
    Calls Tryd.prog 37 #[.agg #[.slice aS S.length cS, .slice aM M.length cM, .int .i64 L]] w fun e w' => ∃ a c, e = .returned (.slice a (strandsL S M L).length c) ∧ Below w.heap.size w w' ∧ OwnRows w' w.heap.size a c ((strandsL S M L).map nats) := by
  have hB : Below w.heap.size w (w.alloc (.cells #[.slice aS S.length cS, .slice aM M.length cM, .int .i64 L] 24)) := (Below.refl _ _).alloc (Nat.le_refl _) _
  have HV := Lib.hid (valid_any S M L aS aM cS cM (w.alloc (.cells #[.slice aS S.length cS, .slice aM M.length cM, .int .i64 L] 24)) hSl hMl (hS.later hB) (hM.later hB))
  have Hbox := Lib.hid (Row.new w #[.slice aS S.length cS, .slice aM M.length cM, .int .i64 L] 24)
  by_cases hv : vldB S M L = true
  · have hsl : strandsL S M L = cycs (sc M) (perOf (sc M) (4 * S.length)) (outB S) (4 * S.length) := if_pos hv
    have hs := vldB_shape hv
    have hfw := hs.few
    rw [hv] at HV
    have Hsl := Lib.hid hsl
    have Hs := Lib.hid hs
    have HS := Lib.hid hS
    have HM := Lib.hid hM
    have HB := Lib.hid hB
    clear hv hsl hs hS hM hB hSl hMl
    go_enter Tryd.func37, Tryd.ntmps37
    go_wp2_with fail
    refine HV.out.mono ?_
    rintro e w1 ⟨rfl, hb1⟩
    have Hb1 := Lib.hid (below_of HB.out hb1 (by simp))
    have Hbox1 := Lib.hid (Hbox.out.later hb1 (by simp))
    have hc1 := Hbox1.out.cell 1
    simp only [List.getElem?_cons_succ, List.getElem?_cons_zero] at hc1
    clear hb1
    go_wp2_with fail
    rw [Hs.out.len]
    refine (cycles_any 63 62 #[.pointer (some ⟨w.heap.size, 0, none⟩)] #[.pointer (some ⟨w.heap.size, 0, none⟩)] (4 * S.length) (sc M) (perOf (sc M) (4 * S.length)) (outB S) w1 (by omega) Tryd.call63 Tryd.call62
      (strands2_any S M L aS aM cS cM w1 _ Hs.out (HM.out.later Hb1.out) Hbox1.out) (strands1_any S M L aS aM cS cM w1 _ (by omega) (HS.out.later Hb1.out) Hbox1.out) Hs.out.injS.lt (fun x hx => perOf_spec Hs.out.injS x hx) (fun x hx => Nat.le_trans (perOf_le _ _ _ (by omega)) (by omega))).mono ?_
    rintro e w2 ⟨A, c, rfl, hb2, hR⟩
    have Hb2 := Lib.hid (below_step Hb1.out hb2)
    have HR := Lib.hid (hR.mono (B' := w.heap.size) Hb1.out.size)
    clear hb2 hR
    go_wp2_with fail
    go_ret
    rw [Hsl.out]
    exact ⟨A, c, rfl, Hb2.out, HR.out⟩
  · have hsl : strandsL S M L = [] := if_neg hv
    have hv2 : vldB S M L = false := by simpa using hv
    rw [hv2] at HV
    rw [hsl]
    clear hv hv2 hsl hS hM
    go_enter Tryd.func37, Tryd.ntmps37
    go_wp2_with fail
    refine HV.out.mono ?_
    rintro e w1 ⟨rfl, hb1⟩
    have Hb1 := Lib.hid (below_of hB hb1 (by simp))
    clear hb1
    go_wp2_with fail
    go_ret
    exact ⟨none, 0, rfl, Hb1.out, OwnRows.nil _ _⟩
end Go.Proofs.YtmhhjchnjaefhaaDoor


