/- connect.Nugatory: the nugatory crossings. The example of the chapter, walked: awake of law07. Diagrams compared: Ints and Equal of the reference, diagram.Equal, slices.EqualFunc, same of law07; the number of components. canon.Code: the code of a diagram. -/
import Derived.WalkKit
import Derived.WalkSpells
import Derived.WalkLawsBesides
import Derived.Deep.AppendSrc
import Derived.Deep.LoopGhost
import Derived.Deep.QuietTactic
import Derived.Deep.RegionWith
import Derived.Deep.DeepMust
import Derived.Deep.DeepFit
import Derived.BigQuiet
import Derived.Lib.Hide
import Derived.Outline
import Derived.Test.YtmjoijfafachhaaGreatDoorProg
import Derived.Deep.Matrix
import Derived.Deep.DeepCutAuto
import Derived.Deep.RegionLaw
import Derived.Deep.RegionHeld3
import Derived.Shelf.Small.Bits
import Derived.Shelf.Small.Wraps
import Derived.Shelf.Strconv.Itoa0
import Derived.Shelf.Sort.Plain
import Derived.Shelf.Slices.Turned
import Derived.Shelf.Slices.Equal
import Derived.Ground.Names2Prog
import Derived.Shelf.Slices.Clone
import Derived.Shelf.Slices.CompactI
import Derived.Shelf.Slices.SearchI
import Derived.Shelf.Slices.Cells
import Derived.Shelf.Slices.In.SortNone
import Derived.Shelf.Slices.Empties2
import Derived.Ground.SlgnProg
import Derived.Shelf.SlicesE.Clone
import Derived.Sort.OwnSortedInts
import Derived.Lib.AppendZeros
import Derived.Deep.RegionHeld
import Derived.Shelf.Strings.Builder1
import Derived.Shelf.Strings.BuilderF
import Derived.Shelf.Strings.BuilderK
import Derived.Shelf.Strconv.Itoa1
import Derived.Shelf.LaysM
import Derived.Shelf.Strconv.Itoa2
import Derived.Shelf.Strconv.Itoa3
import Derived.Lib.SliceRun
import Derived.Test.YtmjoijfafachhaaGreatDoorZuAa
import Derived.Test.YtmjoijfafachhaaGreatDoorZuAb
import Derived.Test.YtmjoijfafachhaaGreatDoorZuAc
import Derived.Test.YtmjoijfafachhaaGreatDoorZuAd
import Derived.Test.YtmjoijfafachhaaGreatDoorZuAe
import Derived.Test.YtmjoijfafachhaaGreatDoorZuAf
import Derived.Test.YtmjoijfafachhaaGreatDoorZuAg
import Derived.Test.YtmjoijfafachhaaGreatDoorZuAh
import Derived.Test.YtmjoijfafachhaaGreatDoorZuAj
import Derived.Test.YtmjoijfafachhaaGreatDoorZuAk
import Derived.Test.YtmjoijfafachhaaGreatDoorZuAl
import Derived.Test.YtmjoijfafachhaaGreatDoorZuAo
import Derived.Test.YtmjoijfafachhaaGreatDoorZuAp
import Derived.Test.YtmjoijfafachhaaGreatDoorZuAq
import Derived.Test.YtmjoijfafachhaaGreatDoorZuAx
import Derived.Test.YtmjoijfafachhaaGreatDoorZuAm
import Derived.Test.YtmjoijfafachhaaGreatDoorZuAn
import Derived.Test.YtmjoijfafachhaaGreatDoorZuAr
import Derived.Test.YtmjoijfafachhaaGreatDoorZuAs
import Derived.Test.YtmjoijfafachhaaGreatDoorZuAt
import Derived.Test.YtmjoijfafachhaaGreatDoorZuAu
import Derived.Test.YtmjoijfafachhaaGreatDoorZuAv
import Derived.Test.YtmjoijfafachhaaGreatDoorZuAw
namespace Go.Proofs.YtmjoijfafachhaaGreatDoor
open Go Go.RowKit
/-- Four places of a slice. -/
theorem four_at {w : World} {B b o c : Nat} {F : List Int} (h : Own w B 3 (some ⟨b, o, none⟩) c (ints F)) (k : Nat) (hk : k + 4 ≤ F.length) : IntsAt w (some ⟨b, o + k, none⟩) [nth F k, nth F (k + 1), nth F (k + 2), nth F (k + 3)] := fun i v hi => by
  obtain ⟨b', o', e, _, hc⟩ := h.ints.open (by omega)
  simp only [Option.some.injEq, Addr.mk.injEq, and_true] at e
  obtain ⟨rfl, rfl⟩ := e
  refine ⟨b, o + k, rfl, ?_⟩
  have h4 : i < 4 := (List.getElem?_eq_some_iff.1 hi).1
  have hn : v = .int .i64 (nth F (k + i)) := by
    rcases (by omega : i = 0 ∨ i = 1 ∨ i = 2 ∨ i = 3) with rfl | rfl | rfl | rfl <;> exact (Option.some.inj hi).symm
  rw [Nat.add_assoc, hn]
  exact hc (k + i) (by omega)
set_option maxRecDepth 100000 in
set_option maxHeartbeats 4000000 in
theorem nugatory_yes (S M : List Int) (L : Int) (aS aM : Option Addr) (cS cM : Nat) (w : World) (hv : vldB S M L = true) (hS : IntsAt w aS S) (hM : IntsAt w aM M) :
    Calls Tryz.prog 14 #[.agg #[.slice aS S.length cS, .slice aM M.length cM, .int .i64 L]] w fun e w' => ∃ a c, e = .returned (.slice a (nugL S M).length c) ∧ Own w' w.heap.size 3 a c (ints (nats (nugL S M))) ∧ Below w.heap.size w w' := by
  have hs := vldB_shape hv
  have hfw := hs.few
  have HV : Hid (∀ W', Below w.heap.size w W' → Calls Tryz.prog 15 #[.agg #[.slice aS S.length cS, .slice aM M.length cM, .int .i64 L]] W' fun e w' => e = .returned (.bool true) ∧ Below W'.heap.size W' w') := Lib.hid fun W' h => by
    have g := valid_any S M L aS aM cS cM W' (by omega) (by rw [hs.len]; omega) (hS.later h) (hM.later h)
    rw [hv] at g; exact g
  have HF : Hid (∀ W', Below w.heap.size w W' → Calls Tryz.prog 23 #[.agg #[.slice aS S.length cS, .slice aM M.length cM, .int .i64 L]] W' fun e w' => ∃ a c, e = .returned (.slice a (4 * S.length) c) ∧ Own w' W'.heap.size 3 a c (ints (leftL M S.length)) ∧ Below W'.heap.size W' w') := Lib.hid fun W' h => left_any S M L aS aM cS cM W' hv (hS.later h) (hM.later h)
  have hFl : (leftL M S.length).length = 4 * S.length := leftTo_len _ _ _
  have HN : Hid (nugL S M = nugTo (leftL M S.length) S.length) := Lib.hid rfl
  rw [HN.out]
  clear hs hv hS hM HN
  generalize leftL M S.length = F at *
  have H0 := Lib.hid ((HH.start w).alloc #[.slice aS S.length cS, .slice aM M.length cM, .int .i64 L] 24 rfl rfl)
  generalize S.length = n at *
  obtain ⟨i0, hi0, hz0, hz1, hz2⟩ := info_parts Tryz.info3
  have Hfl := Lib.hid hFl
  clear hFl
  go_enter Tryz.func14, Tryz.ntmps14
  go_wp2_with fail
  refine (HV.out _ H0.out.below).mono ?_
  rintro e w1 ⟨rfl, hb⟩
  have H1 := Lib.hid (H0.out.call hb)
  clear hb H0 HV
  have k0 := H1.out.cell (k := 0) (i := 0) rfl rfl
  have k1 := H1.out.cell (k := 0) (i := 1) rfl rfl
  have k2 := H1.out.cell (k := 0) (i := 2) rfl rfl
  go_wp2_with fail
  clear k0 k1 k2
  refine (HF.out _ H1.out.below).mono ?_
  rintro e w2 ⟨aF, cF, rfl, ho, hb⟩
  have H2 := Lib.hid ((H1.out.addSl hb ho).addNil 3)
  clear hb ho H1 HF
  have k0 := H2.out.cell (k := 0) (i := 0) rfl rfl
  go_wp2_with fail
  clear k0
  go_loopg [15, 4] n (fun g v s4 wr => ∃ (i : Nat) (A : Option Addr) (C : Nat), i ≤ n ∧ g = n - i ∧ v = .int .i64 i ∧ s4 = .slice A (nugTo F i).length C ∧ HH w wr [(w.heap.size, rowO 24 [.slice aS n cS, .slice aM M.length cM, .int .i64 L])] [⟨aF, cF, 3, ints F⟩, ⟨A, C, 3, ints (nats (nugTo F i))⟩])
  case atStart => exact ⟨0, none, 0, Nat.zero_le _, rfl, rfl, rfl, H2.out⟩
  case round =>
    obtain ⟨i, A, C, hi, rfl, rfl, rfl, hh⟩ := hrel
    have Hh := Lib.hid hh
    clear hh H2
    have hnl := nugTo_len F i
    by_cases hil : i < n
    · have hcap := (Hh.out.sl (k := 0) rfl).size
      dsimp only at hcap
      rw [ints_length, Hfl.out] at hcap
      obtain ⟨bF, oF, rfl, _, _, _, _⟩ := (Hh.out.sl (k := 0) rfl).open (by show 0 < (ints F).length; rw [ints_length, Hfl.out]; omega)
      have H4 := Lib.hid (four_at (Hh.out.sl (k := 0) rfl) (4 * i) (by rw [Hfl.out]; omega))
      have HCl : Hid (∀ cX, Calls Tryz.prog 25 #[.slice (some ⟨bF, oF + 4 * i, none⟩) 4 cX] wr fun e w' => ∃ a' c', e = .returned (.slice a' 4 c') ∧ Own w' wr.heap.size 3 a' c' (ints [nth F (4 * i), nth F (4 * i + 1), nth F (4 * i + 2), nth F (4 * i + 3)]) ∧ Below wr.heap.size wr w') := Lib.hid fun cX => sclone_own _ _ cX wr (by show 4 ≤ _; omega) (by show 0 < 4; omega) H4.out
      have HNb : Hid (nugB F i = decide ((Lib.compact (srt [nth F (4 * i), nth F (4 * i + 1), nth F (4 * i + 2), nth F (4 * i + 3)])).length < 4)) := Lib.hid rfl
      have HYes := Lib.hid (nugTo_yes (F := F) (k := i))
      have HNo := Lib.hid (nugTo_no (F := F) (k := i))
      generalize hfour : [nth F (4 * i), nth F (4 * i + 1), nth F (4 * i + 2), nth F (4 * i + 3)] = X at *
      have HXl : Hid (X.length = 4) := Lib.hid (by rw [← hfour]; rfl)
      clear hfour H4
      have m4 : IntKind.i64.wrap (4 * (i : Int)) = 4 * (i : Int) := wrapi_mid (by omega) (by omega)
      have m5 : IntKind.i64.wrap (4 * (i : Int) + 4) = 4 * (i : Int) + 4 := wrapi_mid (by omega) (by omega)
      go_wp2_with fail
      refine (HCl.out _).mono ?_
      rintro e w3 ⟨a3, c3, rfl, ho, hb⟩
      have HO3 := Lib.hid ho
      have B3 := Lib.hid hb
      clear ho hb HCl
      go_wp2_with fail
      have hso := sort_own X a3 c3 wr.heap.size w3 HO3.out (by rw [HXl.out]; omega)
      rw [HXl.out] at hso
      have HSo := Lib.hid hso
      clear hso
      refine HSo.out.mono ?_
      rintro e w4 ⟨rfl, ho, ht⟩
      have B4 := Lib.hid (B3.out.trans (ht.below B3.out.size (fun x hx => (HO3.out.lt hx).1)))
      have hco := compact_own (srt X) a3 c3 wr.heap.size w4 ho (by rw [srt_len, HXl.out]; omega) (by rw [srt_len, HXl.out]; omega)
      rw [srt_len, HXl.out] at hco
      have HCo := Lib.hid hco
      have HO4 := Lib.hid ho
      clear ho ht HSo hco HO3 B3
      go_wp2_with fail
      refine HCo.out.mono ?_
      rintro e w5 ⟨rfl, ht⟩
      have H5 := Lib.hid (Hh.out.call (B4.out.trans (ht.below B4.out.size (fun x hx => (HO4.out.lt hx).1))))
      clear ht HCo HO4 B4 Hh
      generalize (Lib.compact (srt X)).length = q at *
      cases hnb : nugB F i
      · have HNo := Lib.hid (HNo.out hnb)
        rw [hnb] at HNb
        have d1 : ¬ q < 4 := of_decide_eq_false HNb.out.symm
        have d2 : decide (q < 4) = false := HNb.out.symm
        have d3 : decide ((q : Int) < 4) = false := decide_eq_false (by omega)
        clear hnb HYes
        go_wp2_with fail
        go_roundg (n - (i + 1))
        case measure => omega
        case rel => exact ⟨i + 1, A, C, by omega, rfl, by go_num, by rw [HNo.out], by rw [HNo.out]; exact H5.out⟩
      · have HYes := Lib.hid (HYes.out hnb)
        rw [hnb] at HNb
        have d1 : q < 4 := of_decide_eq_true HNb.out.symm
        have d2 : decide (q < 4) = true := HNb.out.symm
        have d3 : decide ((q : Int) < 4) = true := decide_eq_true (by omega)
        have Ha := Lib.hid (H5.out.call ((Below.refl _ _).alloc (Nat.le_refl _) (.cells #[.int .i64 (i : Int)] 3)))
        have Hc0 : Hid ((w5.alloc (.cells #[.int .i64 (i : Int)] 3)).cell? ⟨w5.heap.size, 0, none⟩ = some (.int .i64 (i : Int))) := Lib.hid ((Row.new w5 #[.int .i64 (i : Int)] 3).cell 0)
        have Hl1 := Lib.hid Ha.out.below.size
        have Hnt : Hid ((ints (nats (nugTo F i))).length = (nugTo F i).length) := Lib.hid (by rw [ints_length, nats_length])
        clear hnb HNo
        go_wp2_with (with_reducible refine wpList_append_one rfl (.tmp 32) (.tmp 34) 22 rfl w.heap.size 3 i0 _ 8 Tryz.underlying22 hi0 hz0 hz1 hz2 rfl A (nugTo F i).length C (ints (nats (nugTo F i))) rfl Hnt.out (Ha.out.sl (k := 1) rfl) ⟨w5.heap.size, 0, none⟩ 1 (.int .i64 (i : Int)) rfl Hc0.out rfl (by omega) (by omega) Hl1.out ?_; intro A7 e7 w7 hO7 hT7 hA7; have HO7 := Lib.hid hO7; have HT7 := Lib.hid hT7; have HA7 := Lib.hid hA7; clear hO7 hT7 hA7)
        have H7 := Lib.hid (Ha.out.grow (k := 1) rfl HO7.out HT7.out HA7.out)
        go_roundg (n - (i + 1))
        case measure => omega
        case rel =>
          refine ⟨i + 1, A7, e7, by omega, rfl, by go_num, by rw [HYes.out, List.length_append]; rfl, ?_⟩
          rw [HYes.out, ← nats_snoc, ← ints_snoc]
          exact H7.out
    · obtain rfl : i = n := by omega
      go_wp2_with fail
      go_ret
      exact ⟨A, C, rfl, Hh.out.sl (k := 1) rfl, Hh.out.below⟩
end Go.Proofs.YtmjoijfafachhaaGreatDoor


namespace Go.Proofs.YtmjoijfafachhaaGreatDoor
open Go Go.RowKit
def kS : List Int := [1]
def kM : List Int := [1, 0, 3, 2]
def tS : List Int := [1, 1]
def tM : List Int := [5, 4, 3, 2, 1, 0, 7, 6]
theorem kink_valid : vldB kS kM 0 = true := by decide +kernel
theorem two_valid : vldB tS tM 0 = true := by decide +kernel
theorem kink_out : outB kS 1 = true := by decide +kernel
theorem two_is : crossL (uniM kM kM) 1 (kM.length + 1) = tM := by decide +kernel
theorem two_cuts : cutsL tS tM = [(1, 5)] := by decide +kernel
theorem kink_cuts : cutsL kS kM = [] := by decide +kernel
theorem back_is : crossL tM 1 5 = [1, 0, 3, 2, 5, 4, 7, 6] := by decide +kernel
theorem grp_two : grpOf tM tS.length = [[0, 1]] := by
  rw [← rgroups_eq (vldB_shape two_valid).mates]
  decide +kernel
theorem back_valid : vldB tS [1, 0, 3, 2, 5, 4, 7, 6] 0 = true := by decide +kernel
theorem grp_back : grpOf [1, 0, 3, 2, 5, 4, 7, 6] tS.length = [[0], [1]] := by
  rw [← rgroups_eq (vldB_shape back_valid).mates]
  decide +kernel
theorem cls_back (c : Nat) (hc : c < tS.length) : clsN [1, 0, 3, 2, 5, 4, 7, 6] tS.length c = [c] := by
  have h := grp_has (vldB_shape back_valid).mates c hc
  rw [grp_back] at h
  have hs : c ∈ clsN [1, 0, 3, 2, 5, 4, 7, 6] tS.length c := cls_self hc
  have hc2 : c < 2 := hc
  simp only [List.mem_cons, List.not_mem_nil, or_false] at h
  rcases h with h | h
  · rw [h] at hs ⊢
    have : c = 0 := List.mem_singleton.1 hs
    rw [this]
  · rw [h] at hs ⊢
    have : c = 1 := List.mem_singleton.1 hs
    rw [this]
theorem facA_two : facA tS tM 1 5 = (kS, kM, 0) := by
  unfold facA ptD
  rw [back_is, show 1 / 4 = 0 from rfl, cls_back 0 (by decide)]
  decide +kernel
theorem facB_two : facB tS tM 1 5 = (kS, kM, 0) := by
  unfold facB ptD
  rw [back_is, show 5 / 4 = 1 from rfl, cls_back 1 (by decide)]
  decide +kernel
theorem split_two : splitL tS tM 0 = [(tS, tM, 0)] := by
  unfold splitL
  rw [grp_two]
  decide +kernel
theorem factors_two : factorsL tS tM 0 = [(kS, kM, 0), (kS, kM, 0)] := by
  unfold factorsL primesL
  rw [split_two]
  show primeL tS tM 0 ++ [] = _
  rw [primeL_cons two_valid two_cuts, facA_two, facB_two, List.append_nil]
  show primeL kS kM 0 ++ primeL kS kM 0 = _
  rw [primeL_none kink_cuts]; rfl
theorem nug_kink : nugL kS kM = [0] := by
  have h : nugB (leftL kM kS.length) 0 = true := by
    rw [nugB_iff]
    decide +kernel
  show nugTo (leftL kM kS.length) (0 + 1) = [0]
  rw [nugTo_yes h]; rfl
theorem sEq_any (xs ys : List Int) (a b : Option Addr) (c d : Nat) (w : World) (hx : xs.length ≤ 1000000000) (hA : IntsAt w a xs) (hB : IntsAt w b ys) :
    Calls Tryz.prog 13 #[.slice a xs.length c, .slice b ys.length d] w fun e w' => e = .returned (.bool (decide (xs = ys))) ∧ Below w.heap.size w w' := by
  by_cases hl : xs.length = ys.length
  · rcases Nat.eq_zero_or_pos xs.length with h0 | h0
    · rw [h0]
      refine (Tryz.slices_Equal_int_empty a b c ys.length d w (by omega)).mono ?_
      rintro e w' ⟨rfl, rfl⟩
      obtain rfl := List.eq_nil_of_length_eq_zero h0
      obtain rfl := List.eq_nil_of_length_eq_zero (show ys.length = 0 by omega)
      exact ⟨rfl, Below.refl _ _⟩
    · obtain ⟨b1, o1, rfl, _, h1⟩ := hA.open h0
      obtain ⟨b2, o2, rfl, _, h2⟩ := hB.open (by omega)
      refine (Tryz.slices_Equal_int b1 o1 xs.length c b2 o2 ys.length d xs ys w (Nat.le_refl _) (Nat.le_refl _) (by omega) (by omega) h1 h2).mono ?_
      rintro e w' ⟨rfl, q, rfl⟩
      rw [List.take_of_length_le (Nat.le_refl _), List.take_of_length_le (Nat.le_refl _)]
      refine ⟨ret_bool ?_, below_drewNN (Below.refl _ _) q⟩
      by_cases e : xs = ys <;> simp [e]
  · refine (Tryz.slices_Equal_int_lens a b xs.length c ys.length d w hl).mono ?_
    rintro e w' ⟨rfl, rfl⟩
    exact ⟨ret_bool (decide_eq_false fun e => hl (by rw [e])).symm, Below.refl _ _⟩
set_option maxRecDepth 100000 in
set_option maxHeartbeats 2000000 in
theorem kink_any (w : World) : Calls Tryz.prog 11 #[] w fun e w' => ∃ a b c d, e = .returned (.agg #[.slice a 1 c, .slice b 4 d, .int .i64 0]) ∧ Own w' w.heap.size 3 a c (ints kS) ∧ Own w' w.heap.size 3 b d (ints kM) ∧ Below w.heap.size w w' := by
  have H9 := Lib.hid ((((HH.start w).alloc #[.slice (some ⟨w.heap.size + 1, 0, none⟩) 1 1, .slice (some ⟨w.heap.size + 1 + 1, 0, none⟩) 4 4, .int .i64 0] 24 rfl rfl).alloc #[.int .i64 1] 3 (b := w.heap.size + 1) (by simp) rfl).alloc #[.int .i64 1, .int .i64 0, .int .i64 3, .int .i64 2] 3 (b := w.heap.size + 1 + 1) (by simp) rfl)
  have hF0 := H9.out.cell (k := 0) (i := 0) rfl rfl
  have hF1 := H9.out.cell (k := 0) (i := 1) rfl rfl
  have hF2 := H9.out.cell (k := 0) (i := 2) rfl rfl
  have H8 := Lib.hid (And.intro hF0 (And.intro hF1 hF2))
  clear hF0 hF1 hF2
  go_enter Tryz.func11, Tryz.ntmps11
  go_wp2_with fail
  obtain ⟨hF0, hF1, hF2⟩ := H8.out
  refine bodyPost_ret (v := .agg #[.slice (some ⟨w.heap.size + 1, 0, none⟩) 1 1, .slice (some ⟨w.heap.size + 1 + 1, 0, none⟩) 4 4, .int .i64 0]) (by simp [results, Tryz.results11, go_sem, hF0, hF1, hF2]) rfl ?_
  exact ⟨_, _, 1, 4, rfl, (H9.out.row (k := 1) rfl).own (Nat.le_add_right _ 1), (H9.out.row (k := 2) rfl).own (Nat.le_add_right _ 2), H9.out.below⟩
set_option maxRecDepth 100000 in
set_option maxHeartbeats 4000000 in
theorem awake_any (w : World) : Calls Tryz.prog 4 #[] w fun e w' => e = .returned (.bool true) ∧ Below w.heap.size w w' := by
  have HK : Hid (∀ W', Calls Tryz.prog 11 #[] W' fun e w' => ∃ a b c d, e = .returned (.agg #[.slice a 1 c, .slice b 4 d, .int .i64 0]) ∧ Own w' W'.heap.size 3 a c (ints kS) ∧ Own w' W'.heap.size 3 b d (ints kM) ∧ Below W'.heap.size W' w') := Lib.hid kink_any
  have HS : Hid (∀ W' a b c d a' b' c' d', IntsAt W' a kS → IntsAt W' b kM → IntsAt W' a' kS → IntsAt W' b' kM → Calls Tryz.prog 10 #[.agg #[.slice a 1 c, .slice b 4 d, .int .i64 0], .int .i64 1, .agg #[.slice a' 1 c', .slice b' 4 d', .int .i64 0], .int .i64 1] W' fun e w' => ∃ a b c d, e = .returned (.tuple #[.agg #[.slice a 2 c, .slice b 8 d, .int .i64 0], .int .i64 0]) ∧ Own w' W'.heap.size 3 a c (ints tS) ∧ Own w' W'.heap.size 3 b d (ints tM) ∧ Below W'.heap.size W' w') := Lib.hid fun W' a b c d a' b' c' d' h1 h2 h3 h4 => by
    have g := sum_yes kS kM kS kM 0 0 a b a' b' c d c' d' 1 1 W' kink_valid kink_valid (by decide) (by decide) kink_out kink_out (by decide) (by decide) h1 h2 h3 h4
    rw [two_is] at g
    exact g
  have HC : Hid (∀ W' a b c d, IntsAt W' a tS → IntsAt W' b tM → Calls Tryz.prog 12 #[.agg #[.slice a 2 c, .slice b 8 d, .int .i64 0]] W' fun e w' => ∃ A C, e = .returned (.slice A 1 C) ∧ Own w' W'.heap.size 41 A (C * 2) [.int .i64 1, .int .i64 5] ∧ Below W'.heap.size W' w') := Lib.hid fun W' a b c d h1 h2 => by
    refine (cuts_yes tS tM 0 a b c d W' two_valid h1 h2).mono ?_
    rintro e w' ⟨A, C, rfl, _, ho, hb⟩
    rw [two_cuts] at ho ⊢
    exact ⟨A, C, rfl, ho, hb⟩
  have HE : Hid (∀ W' a b c d, IntsAt W' a tM → IntsAt W' b tM → Calls Tryz.prog 13 #[.slice a 8 c, .slice b 8 d] W' fun e w' => e = .returned (.bool true) ∧ Below W'.heap.size W' w') := Lib.hid fun W' a b c d h1 h2 => by
    have g := sEq_any tM tM a b c d W' (by decide) h1 h2
    rw [decide_eq_true rfl] at g
    exact g
  have HF : Hid (∀ W' a b c d, IntsAt W' a tS → IntsAt W' b tM → Calls Tryz.prog 9 #[.agg #[.slice a 2 c, .slice b 8 d, .int .i64 0]] W' fun e w' => ∃ A C, e = .returned (.slice A 2 C) ∧ Below W'.heap.size W' w') := Lib.hid fun W' a b c d h1 h2 => by
    refine (factors_yes tS tM 0 a b c d W' 0 (Nat.zero_le _) two_valid h1 h2).mono ?_
    rintro e w' ⟨A, C, rfl, _, hb⟩
    rw [factors_two]
    exact ⟨A, C, rfl, hb⟩
  have HN : Hid (∀ W' a b c d, IntsAt W' a kS → IntsAt W' b kM → Calls Tryz.prog 14 #[.agg #[.slice a 1 c, .slice b 4 d, .int .i64 0]] W' fun e w' => ∃ A C, e = .returned (.slice A 1 C) ∧ Own w' W'.heap.size 3 A C (ints [0]) ∧ Below W'.heap.size W' w') := Lib.hid fun W' a b c d h1 h2 => by
    refine (nugatory_yes kS kM 0 a b c d W' kink_valid h1 h2).mono ?_
    rintro e w' ⟨A, C, rfl, ho, hb⟩
    rw [nug_kink] at ho ⊢
    exact ⟨A, C, rfl, ho, hb⟩
  have HG : Hid (∀ W' a b c d, IntsAt W' a [0] → IntsAt W' b [0] → Calls Tryz.prog 13 #[.slice a 1 c, .slice b 1 d] W' fun e w' => e = .returned (.bool true) ∧ Below W'.heap.size W' w') := Lib.hid fun W' a b c d h1 h2 => by
    have g := sEq_any [0] [0] a b c d W' (by decide) h1 h2
    rw [decide_eq_true rfl] at g
    exact g
  have H0 := Lib.hid (HH.start w)
  go_enter Tryz.func4, Tryz.ntmps4
  go_wp2_with fail
  refine (HK.out _).mono ?_
  rintro e w1 ⟨aK, bK, cK, dK, rfl, ho1, ho2, hb⟩
  have H1 := Lib.hid (H0.out.call hb)
  have O1 := Lib.hid (And.intro ho1.ints ho2.ints)
  clear ho1 ho2 hb H0
  go_wp2_with fail
  refine (HK.out _).mono ?_
  rintro e w2 ⟨aJ, bJ, cJ, dJ, rfl, ho1, ho2, hb⟩
  have H2 := Lib.hid (H1.out.call hb)
  have O2 := Lib.hid (And.intro (And.intro (O1.out.1.later hb) (O1.out.2.later hb)) (And.intro ho1.ints ho2.ints))
  clear ho1 ho2 hb H1 O1
  go_wp2_with fail
  refine (HS.out _ aK bK cK dK aJ bJ cJ dJ O2.out.1.1 O2.out.1.2 O2.out.2.1 O2.out.2.2).mono ?_
  rintro e w3 ⟨aT, bT, cT, dT, rfl, ho1, ho2, hb⟩
  have H3 := Lib.hid (H2.out.call hb)
  have B3 : Hid (Below w.heap.size w (w3.alloc (.cells #[.slice aT 2 cT, .slice bT 8 dT, .int .i64 0] 24))) := Lib.hid (H3.out.below.alloc H3.out.below.size _)
  have H4 := Lib.hid ((HH.start (w3.alloc (.cells #[.slice aT 2 cT, .slice bT 8 dT, .int .i64 0] 24))))
  have O4 : Hid (∀ W', Below (w3.alloc (.cells #[.slice aT 2 cT, .slice bT 8 dT, .int .i64 0] 24)).heap.size (w3.alloc (.cells #[.slice aT 2 cT, .slice bT 8 dT, .int .i64 0] 24)) W' → (IntsAt W' aT tS ∧ IntsAt W' bT tM) ∧ W'.cell? ⟨w3.heap.size, 0, none⟩ = some (.slice aT 2 cT) ∧ W'.cell? ⟨w3.heap.size, 1, none⟩ = some (.slice bT 8 dT) ∧ W'.cell? ⟨w3.heap.size, 2, none⟩ = some (.int .i64 0)) := Lib.hid fun W' h => by
    have hr := (Row.new w3 #[.slice aT 2 cT, .slice bT 8 dT, .int .i64 0] 24).later h (by simp)
    exact ⟨⟨(ho1.alloc _).ints.later h, (ho2.alloc _).ints.later h⟩, hr.cell 0, hr.cell 1, hr.cell 2⟩
  clear ho1 ho2 hb H2 O2 H3
  go_upto_region 2 with fail
  generalize w3.alloc (.cells #[.slice aT 2 cT, .slice bT 8 dT, .int .i64 0] 24) = v3 at *
  generalize w3.heap.size = q at *
  obtain ⟨_, k0, k1, k2⟩ := O4.out v3 (Below.refl _ _)
  go_wp2_with fail
  refine (HC.out _ aT bT cT dT (O4.out v3 (Below.refl _ _)).1.1 (O4.out v3 (Below.refl _ _)).1.2).mono ?_
  rintro e w5 ⟨A5, C5, rfl, ho, hb⟩
  have H5 := Lib.hid (H4.out.addSl hb ho)
  clear ho hb H4 k0 k1 k2
  obtain ⟨_, k0, k1, k2⟩ := O4.out _ H5.out.below
  go_wp2_with fail
  have H6 := Lib.hid (H5.out.alloc #[.int .i64 5, .int .i64 4, .int .i64 3, .int .i64 2, .int .i64 1, .int .i64 0, .int .i64 7, .int .i64 6] 3 (b := w5.heap.size) rfl rfl)
  refine (HE.out _ bT (some ⟨w5.heap.size, 0, none⟩) dT 8 (O4.out _ H6.out.below).1.2 (H6.out.row (k := 0) rfl).at).mono ?_
  rintro e w7 ⟨rfl, hb⟩
  have H7 := Lib.hid (H6.out.call hb)
  clear hb H6 H5 k0 k1 k2
  obtain ⟨_, k0, k1, k2⟩ := O4.out _ H7.out.below
  obtain ⟨b5, o5, rfl, _, _, hcc, _⟩ := (H7.out.sl (k := 0) rfl).open (by show 0 < 2; omega)
  have hcc : ∀ i v, ([.int .i64 1, .int .i64 5] : List Value)[i]? = some v → w7.cell? ⟨b5, o5 + i, none⟩ = some v := hcc
  have c0 : w7.cell? ⟨b5, o5, none⟩ = some (.int .i64 1) := hcc 0 _ rfl
  have c1 : w7.cell? ⟨b5, o5 + 1, none⟩ = some (.int .i64 5) := hcc 1 _ rfl
  clear hcc
  have he := run_eqPair 1 5 1 5
  go_wp2_with fail
  refine (HF.out _ aT bT cT dT (O4.out _ H7.out.below).1.1 (O4.out _ H7.out.below).1.2).mono ?_
  rintro e w8 ⟨A8, C8, rfl, hb⟩
  have H8 := Lib.hid (H7.out.call hb)
  clear hb H7 k0 k1 k2 c0 c1 he
  go_wp2_with fail
  refine (HK.out _).mono ?_
  rintro e w9 ⟨aK, bK, cK, dK, rfl, ho1, ho2, hb⟩
  have H9 := Lib.hid (H8.out.call hb)
  have O9 := Lib.hid (And.intro ho1.ints ho2.ints)
  clear ho1 ho2 hb H8
  go_wp2_with fail
  refine (HN.out _ aK bK cK dK O9.out.1 O9.out.2).mono ?_
  rintro e w10 ⟨A9, C9, rfl, ho, hb⟩
  have H10 := Lib.hid (H9.out.addSl hb ho)
  clear ho hb H9 O9
  go_wp2_with fail
  have H11 := Lib.hid (H10.out.alloc #[.int .i64 0] 3 (b := w10.heap.size) rfl rfl)
  refine (HG.out _ A9 (some ⟨w10.heap.size, 0, none⟩) C9 1 (H11.out.sl (k := 1) rfl).ints (H11.out.row (k := 1) rfl).at).mono ?_
  rintro e w12 ⟨rfl, hb⟩
  have H12 := Lib.hid (H11.out.call hb)
  clear hb H11 H10
  go_wp2_with fail
  go_ret
  exact ⟨rfl, below_step B3.out H12.out.below⟩
end Go.Proofs.YtmjoijfafachhaaGreatDoor


namespace Go.Proofs.YtmjoijfafachhaaGreatDoor
open Go Go.RowKit
/-- A list of diagrams that is read. -/
def RdD (w : World) (A : Option Addr) (ds : List Dgm) : Prop := ∀ (i : Nat) (d : Dgm), ds[i]? = some d → ∃ b o a c e f, A = some ⟨b, o, none⟩ ∧ w.cell? ⟨b, o + i * 3, none⟩ = some (.slice a d.1.length c) ∧ w.cell? ⟨b, o + i * 3 + 1, none⟩ = some (.slice e d.2.1.length f) ∧ w.cell? ⟨b, o + i * 3 + 2, none⟩ = some (.int .i64 d.2.2) ∧ IntsAt w a d.1 ∧ IntsAt w e d.2.1
theorem DLO.rd {w : World} {B B0 : Nat} {A : Option Addr} {C : Nat} {ds : List Dgm} (h : DLO w B B0 A C ds) : RdD w A ds := fun i d hd => by
  have hi : i < ds.length := (List.getElem?_eq_some_iff.1 hd).1
  obtain ⟨b, o, rfl, hc⟩ := h.open (by omega)
  obtain ⟨a, c, e, f, h1, h2, h3, h4, h5⟩ := hc i d hd
  exact ⟨b, o, a, c, e, f, rfl, h1, h2, h3, h4.at, h5.at⟩
theorem RdD.later {w w' : World} {A : Option Addr} {ds : List Dgm} (h : RdD w A ds) (hb : Below w.heap.size w w') : RdD w' A ds := fun i d hd => by
  obtain ⟨b, o, a, c, e, f, rfl, h1, h2, h3, h4, h5⟩ := h i d hd
  exact ⟨b, o, a, c, e, f, rfl, (hb.cell (p := ⟨b, o + i * 3, none⟩) (World.block_lt_of_cell? _ _ h1)).trans h1, (hb.cell (p := ⟨b, o + i * 3 + 1, none⟩) (World.block_lt_of_cell? _ _ h2)).trans h2, (hb.cell (p := ⟨b, o + i * 3 + 2, none⟩) (World.block_lt_of_cell? _ _ h3)).trans h3, h4.later hb, h5.later hb⟩
end Go.Proofs.YtmjoijfafachhaaGreatDoor


namespace Go.Proofs.YtmjoijfafachhaaGreatDoor
open Go Go.RowKit
theorem CellsOf.rd {w : World} {B B0 : Nat} {E : TypeId} {A : Option Addr} {c : Nat} {vs : List Value} {ds : List Dgm} (h : CellsOf w B0 vs ds) (ho : Own w B E A c vs) : RdD w A ds := fun i d hd => by
  have hi : i < ds.length := (List.getElem?_eq_some_iff.1 hd).1
  have hl := h.1
  obtain ⟨b, o, rfl, _, _, hc, _⟩ := ho.open (by omega)
  obtain ⟨a, c, e, f, h1, h2, h3, h4, h5⟩ := h.2 i d hd
  exact ⟨b, o, a, c, e, f, rfl, hc _ _ h1, by rw [Nat.add_assoc]; exact hc _ _ h2, by rw [Nat.add_assoc]; exact hc _ _ h3, h4.at, h5.at⟩
set_option maxRecDepth 100000 in
set_option maxHeartbeats 1000000 in
theorem code_no (S M : List Int) (L : Int) (aS aM : Option Addr) (cS cM : Nat) (w : World) (hSl : S.length ≤ 1000000000) (hMl : M.length ≤ 1000000000) (hv : vldB S M L = false) (hS : IntsAt w aS S) (hM : IntsAt w aM M) :
    Calls Tryz.prog 30 #[.agg #[.slice aS S.length cS, .slice aM M.length cM, .int .i64 L]] w fun e w' => e = .returned (.slice none 0 0) ∧ Below w.heap.size w w' := by
  have HV : Hid (∀ W', Below w.heap.size w W' → Calls Tryz.prog 15 #[.agg #[.slice aS S.length cS, .slice aM M.length cM, .int .i64 L]] W' fun e w' => e = .returned (.bool false) ∧ Below W'.heap.size W' w') := Lib.hid fun W' h => by
    have g := valid_any S M L aS aM cS cM W' (by omega) (by omega) (hS.later h) (hM.later h)
    rw [hv] at g; exact g
  have H0 := Lib.hid ((HH.start w).alloc #[.slice aS S.length cS, .slice aM M.length cM, .int .i64 L] 24 rfl rfl)
  clear hv hS hM
  generalize S.length = n at *
  generalize M.length = N at *
  go_enter Tryz.func30, Tryz.ntmps30
  have k00 := H0.out.cell (k := 0) (i := 0) rfl rfl
  have k01 := H0.out.cell (k := 0) (i := 1) rfl rfl
  have k02 := H0.out.cell (k := 0) (i := 2) rfl rfl
  go_wp2_with fail
  clear k00 k01 k02
  refine (HV.out _ H0.out.below).mono ?_
  rintro e w1 ⟨rfl, hb⟩
  have H1 := Lib.hid (H0.out.call hb)
  clear hb H0 
  go_wp2_with fail
  go_ret
  exact ⟨rfl, H1.out.below⟩
set_option maxRecDepth 100000 in
set_option maxHeartbeats 1000000 in
theorem code_yes (S M : List Int) (L : Int) (aS aM : Option Addr) (cS cM : Nat) (w : World) (hv : vldB S M L = true) (h20 : S.length ≤ 20) (hS : IntsAt w aS S) (hM : IntsAt w aM M) :
    Calls Tryz.prog 30 #[.agg #[.slice aS S.length cS, .slice aM M.length cM, .int .i64 L]] w fun e w' => ∃ a c, e = .returned (.slice a (codeOf S M L).length c) ∧ Own w' w.heap.size 3 a c (ints (codeOf S M L)) ∧ Below w.heap.size w w' := by
  have hs := vldB_shape hv
  have hMl := hs.len
  have HV : Hid (∀ W', Below w.heap.size w W' → Calls Tryz.prog 15 #[.agg #[.slice aS S.length cS, .slice aM M.length cM, .int .i64 L]] W' fun e w' => e = .returned (.bool true) ∧ Below W'.heap.size W' w') := Lib.hid fun W' h => by
    have g := valid_any S M L aS aM cS cM W' (by omega) (by omega) (hS.later h) (hM.later h)
    rw [hv] at g; exact g
  have HP : Hid (∀ W', Below w.heap.size w W' → Calls Tryz.prog 45 #[.agg #[.slice aS S.length cS, .slice aM M.length cM, .int .i64 L]] W' fun e w' => ∃ A C ys, e = .returned (.slice A ys.length C) ∧ Hid (codeY L ys ys.length = codeOf S M L ∧ ys.length ≤ 20 ∧ ∀ i, i < ys.length → (ys.getD i ([], [], 0)).1.length ≤ 100 ∧ (ys.getD i ([], [], 0)).2.1.length ≤ 20 ∧ (codeY L ys i).length ≤ 2100) ∧ RdD w' A ys ∧ Below W'.heap.size W' w') := Lib.hid fun W' h => by
    refine (cpieces_any S M L aS aM cS cM W' hv h20 (hS.later h) (hM.later h)).mono ?_
    rintro e w' ⟨A, C, ys, vs, rfl, hsr, ho, hc, hb⟩
    have hfew : ∀ p, p ∈ ys → p.1.length ≤ 100 ∧ p.2.1.length ≤ 20 := fun p hp => by
      have := piece_few (fun x hx => hs.mt_lt hx) hsr hp
      omega
    have hyl : ys.length ≤ 20 := by
      rw [hsr.perm.length_eq, List.length_map]; exact Nat.le_trans (grp_len M S.length) h20
    refine ⟨A, C, ys, rfl, Lib.hid ⟨codeY_all hsr, hyl, fun i hi => ?_⟩, hc.rd ho, hb⟩
    have hm : ys.getD i ([], [], 0) ∈ ys := by rw [List.getD_eq_getElem?_getD, List.getElem?_eq_getElem hi]; exact List.getElem_mem _
    have h3 := codeY_few L (fun p hp => (hfew p hp).1) i (Nat.le_of_lt hi)
    have h4 := Nat.mul_le_mul (show i ≤ 20 by omega) (Nat.le_refl (100 + 1))
    exact ⟨(hfew _ hm).1, (hfew _ hm).2, by omega⟩
  obtain ⟨i0, hi0, hz0, hz1, hz2⟩ := info_parts Tryz.info3
  have H0 := Lib.hid ((HH.start w).alloc #[.slice aS S.length cS, .slice aM M.length cM, .int .i64 L] 24 rfl rfl)
  clear hv hS hM hs hMl h20
  generalize codeOf S M L = CO at *
  generalize S.length = n at *
  generalize M.length = N at *
  go_enter Tryz.func30, Tryz.ntmps30
  have k00 := H0.out.cell (k := 0) (i := 0) rfl rfl
  have k01 := H0.out.cell (k := 0) (i := 1) rfl rfl
  have k02 := H0.out.cell (k := 0) (i := 2) rfl rfl
  go_wp2_with fail
  clear k00 k01 k02
  refine (HV.out _ H0.out.below).mono ?_
  rintro e w1 ⟨rfl, hb⟩
  have H1 := Lib.hid (H0.out.call hb)
  clear hb H0 HV
  have k00 := H1.out.cell (k := 0) (i := 0) rfl rfl
  have k01 := H1.out.cell (k := 0) (i := 1) rfl rfl
  have k02 := H1.out.cell (k := 0) (i := 2) rfl rfl
  go_wp2_with fail
  clear k00 k01 k02
  refine (HP.out _ H1.out.below).mono ?_
  rintro e w2 ⟨A, C, ys, rfl, HY, hrd, hb⟩
  have H2 := Lib.hid (H1.out.call hb)
  have HR := Lib.hid hrd
  clear hrd hb H1 HP
  have hyl : ys.length ≤ 20 := HY.out.2.1
  have HBw := Lib.hid H2.out.below
  have k2 := H2.out.cell (k := 0) (i := 2) rfl rfl
  have J0 : Hid (HH w2 (w2.alloc (.cells #[.int .i64 L, .int .i64 (ys.length : Int)] 3)) [] [⟨some ⟨w2.heap.size, 0, none⟩, 2, 3, ints (codeY L ys 0)⟩]) := Lib.hid ((HH.start w2).addSl ((Below.refl _ _).alloc (Nat.le_refl _) _) (Own.made #[.int .i64 L, .int .i64 (ys.length : Int)] (Nat.le_refl _)))
  go_wp2_with fail
  clear k2 H2
  go_loopg [19, 4] ys.length (fun g v s4 wr => ∃ (i : Nat) (A2 : Option Addr) (d : Nat), i ≤ ys.length ∧ g = ys.length - i ∧ v = .int .i64 i ∧ s4 = .slice A2 (codeY L ys i).length d ∧ HH w2 wr [] [⟨A2, d, 3, ints (codeY L ys i)⟩])
  case atStart => exact ⟨0, _, 2, Nat.zero_le _, rfl, rfl, rfl, J0.out⟩
  case round =>
    obtain ⟨i, A2, d, hi, rfl, rfl, rfl, hh⟩ := hrel
    have Jr := Lib.hid hh
    clear hh J0
    by_cases hil : i < ys.length
    · obtain ⟨b, o, a, c, e, f, rfl, g1, g2, g3, h4, h5⟩ := HR.out i _ (getD_some (d := ([], [], 0)) hil)
      have h1 := (Jr.out.below.cell (p := ⟨b, o + i * 3, none⟩) (World.block_lt_of_cell? _ _ g1)).trans g1
      have h2 := (Jr.out.below.cell (p := ⟨b, o + i * 3 + 1, none⟩) (World.block_lt_of_cell? _ _ g2)).trans g2
      have h3 := (Jr.out.below.cell (p := ⟨b, o + i * 3 + 2, none⟩) (World.block_lt_of_cell? _ _ g3)).trans g3
      clear g1 g2 g3
      have HC1 := Lib.hid (codeY_succ L hil)
      obtain ⟨hb1, hb2, hb3⟩ := HY.out.2.2 i hil
      generalize ys.getD i ([], [], 0) = dd at *
      obtain ⟨Xd, Yd, r3⟩ := dd
      dsimp only at *
      have HI := Lib.hid h4
      clear h4 h5
      have hX : Hid ((ints Xd).length = Xd.length * 1) := Lib.hid (by rw [ints_length, Nat.mul_one])
      have Hcy : Hid ((ints (codeY L ys i)).length = (codeY L ys i).length) := Lib.hid (by rw [ints_length])
      generalize hl2 : Yd.length = l2 at *
      have HC2 : Hid (codeY L ys (i + 1) = codeY L ys i ++ [(l2 : Int)] ++ Xd) := HC1
      clear hl2 HC1
      have Hl2 : Hid ((codeY L ys (i + 1)).length = (codeY L ys i).length + 1 + Xd.length) := Lib.hid (by rw [HC2.out, List.length_append, List.length_append]; rfl)
      generalize codeY L ys i = cy at *
      generalize cy.length = ly at *
      generalize Xd.length = l1 at *
      have K0 := Lib.hid (Jr.out.alloc #[.slice a l1 c, .slice e l2 f, .int .i64 r3] 78 (b := wr.heap.size) rfl rfl)
      go_upto_region 8 with fail
      clear h1 h2 h3 Jr
      generalize wr.alloc (.cells #[.slice a l1 c, .slice e l2 f, .int .i64 r3] 78) = v1 at *
      generalize wr.heap.size = q at *
      have y1 := K0.out.cell (k := 0) (i := 1) rfl rfl
      have Ja := Lib.hid (K0.out.call ((Below.refl _ _).alloc (Nat.le_refl _) (.cells #[.int .i64 (l2 : Int)] 3)))
      have Hc0 : Hid ((v1.alloc (.cells #[.int .i64 (l2 : Int)] 3)).cell? ⟨v1.heap.size, 0, none⟩ = some (.int .i64 (l2 : Int))) := Lib.hid ((Row.new v1 #[.int .i64 (l2 : Int)] 3).cell 0)
      have Hl1 := Lib.hid Ja.out.below.size
      go_upto_region 9 with (with_reducible refine wpList_append_one rfl (.tmp 23) (.tmp 27) 22 rfl w2.heap.size 3 i0 (.int .i64 0) 8 Tryz.underlying22 hi0 hz0 hz1 hz2 rfl A2 ly d (ints cy) rfl Hcy.out (Ja.out.sl (k := 0) rfl) _ 1 (.int .i64 (l2 : Int)) rfl Hc0.out rfl (by omega) (by omega) Hl1.out ?_; intro A3 e3 w7 hO2 hT2 hA2; have HO3 := Lib.hid hO2; have HT3 := Lib.hid hT2; have HA3 := Lib.hid hA2; clear hO2 hT2 hA2)
      have J8 : Hid (HH w2 w7 [(q, rowO 78 [.slice a l1 c, .slice e l2 f, .int .i64 r3])] [⟨A3, e3, 3, ints (cy ++ [(l2 : Int)])⟩]) := Lib.hid (by
        have h := Ja.out.grow (k := 0) rfl HO3.out HT3.out HA3.out
        rw [← ints_snoc]; exact h)
      clear HO3 HT3 HA3 Ja K0 Hc0 Hl1 y1
      have y0 := J8.out.cell (k := 0) (i := 0) rfl rfl
      have Hus : Hid (VAt w7 a (ints Xd)) := Lib.hid (HI.out.later J8.out.below)
      have Hu1 : Hid (∀ u ∈ ints Xd, u.oneCell' = true) := Lib.hid (by
        intro u hu
        obtain ⟨x, _, rfl⟩ := List.mem_map.1 hu
        rfl)
      have Hl1 := Lib.hid J8.out.below.size
      have HO1 : Hid (Own w7 w2.heap.size 3 A3 (e3 * 1) (ints (cy ++ [(l2 : Int)]))) := Lib.hid (by rw [Nat.mul_one]; exact J8.out.sl (k := 0) rfl)
      have Hvl : Hid ((ints (cy ++ [(l2 : Int)])).length = (ly + 1) * 1) := Lib.hid (by rw [ints_length, List.length_append, Nat.mul_one, ← Hcy.out, ints_length]; rfl)
      have hdc : ly + 1 ≤ e3 := by have := HO1.out.size; have := Hvl.out; omega
      have Hzc : Hid ((Value.int .i64 0).cells.size = 1) := Lib.hid rfl
      go_wp2_with (with_reducible refine wpList_append_wide rfl (.tmp 29) (.tmp 31) 22 22 rfl w2.heap.size 3 i0 _ 8 1 Tryz.underlying22 Tryz.underlying22 hi0 hz0 hz1 (by decide) hz2 Hzc.out A3 (ly + 1) e3 (ints (cy ++ [(l2 : Int)])) rfl Hvl.out hdc HO1.out a l1 c (ints Xd) rfl hX.out Hus.out Hu1.out (by omega) (by omega) Hl1.out ?_; intro A7 e7 w8 hle hO7 hT7 hA7; have HO7 := Lib.hid hO7; have HT7 := Lib.hid hT7; have HA7 := Lib.hid hA7; clear hO7 hT7 hA7)
      have J9 : Hid (HH w2 w8 [] [⟨A7, e7, 3, ints (codeY L ys (i + 1))⟩]) := Lib.hid (by
        have ho := HO7.out
        rw [Nat.mul_one] at ho
        have h := J8.out.grow (k := 0) rfl ho HT7.out HA7.out
        have e : ints (cy ++ [(l2 : Int)]) ++ ints Xd = ints (codeY L ys (i + 1)) := by rw [HC2.out]; simp only [ints, List.map_append]
        rw [← e]
        exact h.forgetK (List.nil_sublist _))
      go_roundg (ys.length - (i + 1))
      case measure => omega
      case rel => exact ⟨i + 1, A7, e7, by omega, rfl, by go_num, by rw [Hl2.out], J9.out⟩
    · obtain rfl : i = ys.length := by omega
      have HE : Hid (codeY L ys ys.length = CO) := Lib.hid HY.out.1
      rw [HE.out] at Jr
      rw [HE.out]
      clear HE
      go_wp2_with fail
      go_ret
      exact ⟨A2, d, rfl, (Jr.out.sl (k := 0) rfl).mono HBw.out.size, HBw.out.trans (Jr.out.below.mono HBw.out.size)⟩
end Go.Proofs.YtmjoijfafachhaaGreatDoor


