/- The reference: Symmetries, Same. -/
import Derived.WalkKit
import Derived.WalkSpells
import Derived.WalkLawsBesides
import Derived.Deep.AppendSrc
import Derived.Deep.LoopGhost
import Derived.Deep.QuietTactic
import Derived.Deep.RegionWith
import Derived.Deep.DeepMust
import Derived.Deep.DeepFit
import Derived.BigQuiet
import Derived.Lib.Hide
import Derived.Outline
import Derived.Test.YtmhhjchnjaefhaaDoorProg
import Derived.Deep.Matrix
import Derived.Deep.DeepCutAuto
import Derived.Deep.RegionLaw
import Derived.Deep.RegionHeld3
import Derived.Lib.SliceRun
import Derived.Shelf.Strings.Builder1
import Derived.Shelf.Small.Wraps
import Derived.Shelf.Strings.BuilderF
import Derived.Shelf.Strings.BuilderK
import Derived.Shelf.Strconv.Itoa0
import Derived.Shelf.Strconv.Itoa1
import Derived.Shelf.LaysM
import Derived.Shelf.Strconv.Itoa2
import Derived.Shelf.Strconv.Itoa3
import Derived.Shelf.Slices.Equal
import Derived.Ground.Names2Prog
import Derived.Shelf.Slices.Clone
import Derived.Shelf.Slices.SearchI
import Derived.Shelf.Slices.Empties2
import Derived.Ground.SlgnProg
import Derived.Shelf.SlicesE.Clone
import Derived.Sort.OwnSortedInts
import Derived.Shelf.Small.Bits
import Derived.Shelf.Sort.Plain
import Derived.Shelf.Slices.Turned
import Derived.Shelf.Slices.CompactI
import Derived.Shelf.Slices.Cells
import Derived.Shelf.Slices.In.SortNone
import Derived.Lib.AppendZeros
import Derived.Deep.RegionHeld
import Derived.Test.YtmhhjchnjaefhaaDoorTAa
import Derived.Test.YtmhhjchnjaefhaaDoorTAb
import Derived.Test.YtmhhjchnjaefhaaDoorTAc
import Derived.Test.YtmhhjchnjaefhaaDoorTAd
import Derived.Test.YtmhhjchnjaefhaaDoorTAe
import Derived.Test.YtmhhjchnjaefhaaDoorTAf
import Derived.Test.YtmhhjchnjaefhaaDoorTAg
import Derived.Test.YtmhhjchnjaefhaaDoorTAh
import Derived.Test.YtmhhjchnjaefhaaDoorTAi
import Derived.Test.YtmhhjchnjaefhaaDoorTAj
import Derived.Test.YtmhhjchnjaefhaaDoorTAk
import Derived.Test.YtmhhjchnjaefhaaDoorTAl
import Derived.Test.YtmhhjchnjaefhaaDoorTAm
import Derived.Test.YtmhhjchnjaefhaaDoorTAn
import Derived.Test.YtmhhjchnjaefhaaDoorTAo
import Derived.Test.YtmhhjchnjaefhaaDoorTAp
import Derived.Test.YtmhhjchnjaefhaaDoorTAq
import Derived.Test.YtmhhjchnjaefhaaDoorTAr
import Derived.Test.YtmhhjchnjaefhaaDoorTAs
namespace Go.Proofs.YtmhhjchnjaefhaaDoor
open Go Go.RowKit
/-- How many of the first j crossings yield the code. -/
def kTo (S M : List Int) (n : Nat) (os : List Nat) (c : List Int) (j : Nat) : Nat := (os.take j).countP fun r => decide (codeL S M r n = c)
theorem kTo_succ (S M : List Int) (n : Nat) {os : List Nat} (c : List Int) {j : Nat} (h : j < os.length) : kTo S M n os c (j + 1) = kTo S M n os c j + if codeL S M (os.getD j 0) n = c then 1 else 0 := by
  unfold kTo
  rw [List.take_add_one, getD_some (d := 0) h, Option.toList_some, List.countP_append, List.countP_singleton]
  simp
theorem kTo_le (S M : List Int) (n : Nat) (os : List Nat) (c : List Int) (j : Nat) : kTo S M n os c j ≤ j := by
  unfold kTo
  exact Nat.le_trans List.countP_le_length (by rw [List.length_take]; omega)
set_option maxRecDepth 100000 in
set_option maxHeartbeats 4000000 in
theorem rsym_any (S M : List Int) (L : Int) (aS aM : Option Addr) (cS cM : Nat) (w : World) (hv : vldB S M L = true) (h20 : S.length ≤ 20) (hS : IntsAt w aS S) (hM : IntsAt w aM M) :
    Calls Tryd.prog 16 #[.agg #[.slice aS S.length cS, .slice aM M.length cM, .int .i64 L]] w fun e w' => e = .returned (.int .i64 (symV S M S.length)) ∧ Below w.heap.size w w' := by
  have hs := vldB_shape hv
  have hfw := hs.few
  have hmo := hs.mates
  have hmt : ∀ x, x < 4 * S.length → mt M x < 4 * S.length := fun x hx => hs.mt_lt hx
  have hmr : ∀ x, x < 4 * S.length → nth M x = (mt M x : Int) := fun x hx => by
    have := hs.range x hx
    unfold mt; omega
  have hMl := hs.len
  have HRo : Hid (∀ W', Below w.heap.size w W' → Calls Tryd.prog 45 #[.agg #[.slice aS S.length cS, .slice aM M.length cM, .int .i64 L]] W' fun e w' => ∃ A C rs, e = .returned (.slice A rs.length C) ∧ IntsAt w' A (nats rs) ∧ rs.length ≤ 20 ∧ Hid ((symR S M S.length rs rs.length).1 = symV S M S.length ∧ (∀ r, r ∈ rs → r < S.length)) ∧ Below W'.heap.size W' w') := Lib.hid fun W' h => by
    refine (roots_any S M L aS aM cS cM W' hv (hS.later h) (hM.later h)).mono ?_
    rintro e w' ⟨A, C, rs, rfl, hr, ho, hb⟩
    have hp := hr.out.perm
    refine ⟨A, C, rs, rfl, ho.ints, ?_, Lib.hid ⟨symR_all hmo hmt hr.out, fun r hrr => ?_⟩, hb⟩
    · rw [hp.length_eq, List.length_map, List.length_take]
      have := grp_len M S.length; omega
    · obtain ⟨_, _, _, _, hlt⟩ := rts_of hmo hmt hr.out hrr
      exact hlt
  have HF : Hid (∀ r W', r < S.length → Below w.heap.size w W' → Calls Tryd.prog 46 #[.agg #[.slice aS S.length cS, .slice aM M.length cM, .int .i64 L], .int .i64 (r : Int)] W' fun e w' => ∃ A C, e = .returned (.slice A (codeL S M r S.length).length C) ∧ IntsAt w' A (codeL S M r S.length) ∧ Below W'.heap.size W' w') := Lib.hid fun r W' hr h => (from_any S M L aS aM cS cM r W' hs hr (hS.later h) (hM.later h)).mono fun e w' ⟨A, C, e1, e2, e3⟩ => ⟨A, C, e1, e2.ints, e3⟩
  have HN : Hid (∀ r W', r < S.length → Below w.heap.size w W' → Calls Tryd.prog 47 #[.slice aM M.length cM, .int .i64 (r : Int)] W' fun e w' => ∃ A C, e = .returned (.slice A (ordL M r S.length).length C) ∧ IntsAt w' A (nats (ordL M r S.length)) ∧ Below W'.heap.size W' w') := Lib.hid fun r W' hr h => (numbering_any M S.length r aM cM W' hfw hs.len hmt hmr hr (hM.later h)).mono fun e w' ⟨A, C, e1, e2, e3⟩ => ⟨A, C, e1, e2.ints, e3⟩
  have HIn : Hid (∀ r s (a b : Option Addr) (c d : Nat) W', r < S.length → IntsAt W' a (codeL S M r S.length) → IntsAt W' b (codeL S M s S.length) → Calls Tryd.prog 30 #[.slice a (codeL S M r S.length).length c, .slice b (codeL S M s S.length).length d] W' fun e w' => e = .returned (.bool (decide (codeL S M r S.length = codeL S M s S.length))) ∧ Below W'.heap.size W' w') := Lib.hid fun r s a b c d W' hr h1 h2 => (ints_any _ _ a b c d W' (by
    rw [codeL_len]
    have := ordTo_len hmt hr S.length
    show 5 * (ordTo M r S.length).length ≤ _
    omega) h1 h2).mono fun e w' ⟨e1, m, e2⟩ => ⟨e1, by rw [e2]; exact below_drewNN (Below.refl _ _) _⟩
  have HOl : Hid (∀ r, r < S.length → (ordL M r S.length).length ≤ 20 ∧ (∀ c, c ∈ ordL M r S.length → c < S.length) ∧ kTo S M S.length (ordL M r S.length) (codeL S M r S.length) (ordL M r S.length).length = kOf S M S.length r) := Lib.hid fun r hr => by
    have h1 : (ordL M r S.length).length ≤ S.length := ordTo_len hmt hr S.length
    refine ⟨by omega, ordTo_lt hmt hr _, ?_⟩
    unfold kTo kOf rootsN
    rw [List.take_length]
  have H0 := Lib.hid ((HH.start w).alloc #[.slice aS S.length cS, .slice aM M.length cM, .int .i64 L] 24 rfl rfl)
  clear hs hmo hmt hmr hMl hv hS hM
  generalize symV S M S.length = SV at *
  generalize S.length = n at *
  generalize M.length = N at *
  go_enter Tryd.func16, Tryd.ntmps16
  have k00 := H0.out.cell (k := 0) (i := 0) rfl rfl
  have k01 := H0.out.cell (k := 0) (i := 1) rfl rfl
  have k02 := H0.out.cell (k := 0) (i := 2) rfl rfl
  go_wp2_with fail
  clear k00 k01 k02
  refine (HRo.out _ H0.out.below).mono ?_
  rintro e w2 ⟨aR, cR, rs, rfl, hri, hrl, HR, hb⟩
  have H2 := Lib.hid (H0.out.call hb)
  have HRI := Lib.hid hri
  clear hb H0 HRo hri
  have HRd : Hid (∀ W', Below w2.heap.size w2 W' → (W'.cell? ⟨w.heap.size, 0, none⟩ = some (.slice aS n cS) ∧ W'.cell? ⟨w.heap.size, 1, none⟩ = some (.slice aM N cM) ∧ W'.cell? ⟨w.heap.size, 2, none⟩ = some (.int .i64 L))) := Lib.hid fun W' h => by
    have h1 := H2.out.call h
    exact ⟨h1.cell (k := 0) (i := 0) rfl rfl, h1.cell (k := 0) (i := 1) rfl rfl, h1.cell (k := 0) (i := 2) rfl rfl⟩
  have HBw := Lib.hid H2.out.below
  have HD : Hid (∀ W', Below w2.heap.size w2 W' → Below w.heap.size w W') := Lib.hid fun W' h => below_of HBw.out h HBw.out.size
  have HCl : Hid (∀ i, i < rs.length → ∃ bR oR, aR = some ⟨bR, oR, none⟩ ∧ ∀ W', Below w2.heap.size w2 W' → W'.cell? ⟨bR, oR + i, none⟩ = some (.int .i64 ((rs.getD i 0 : Nat) : Int))) := Lib.hid fun i hil => by
    obtain ⟨bR, oR, e, _, hc⟩ := HRI.out.open (by rw [nats_length]; omega)
    refine ⟨bR, oR, e, fun W' h => ?_⟩
    have := hc i (by rw [nats_length]; exact hil)
    rw [nth_nats _ _ hil] at this
    exact (h.cell (World.block_lt_of_cell? _ _ this)).trans this
  clear H2 HRI
  go_wp2_with fail
  go_loopg [6, 4, 5] rs.length (fun g v t s wr => ∃ i : Nat, i ≤ rs.length ∧ g = rs.length - i ∧ v = .int .i64 (i : Int) ∧ t = .int .i64 (symR S M n rs i).1 ∧ s = .int .i64 (symR S M n rs i).2 ∧ Hid (Below w2.heap.size w2 wr))
  case atStart => exact ⟨0, Nat.zero_le _, rfl, rfl, rfl, rfl, Lib.hid (Below.refl _ _)⟩
  case round =>
    obtain ⟨i, hi, rfl, rfl, rfl, rfl, Jr⟩ := hrel
    by_cases hil : i < rs.length
    · have HS1 : Hid ((symR S M n rs (i + 1)).1 = min (min ((symR S M n rs i).1 * (kOf S M n (rs.getD i 0) : Int)) 1099511627776 * (if 0 < i ∧ codeL S M (rs.getD (i - 1) 0) n ≠ codeL S M (rs.getD i 0) n then 1 else (symR S M n rs i).2 + 1)) 1099511627776 ∧ (symR S M n rs (i + 1)).2 = (if 0 < i ∧ codeL S M (rs.getD (i - 1) 0) n ≠ codeL S M (rs.getD i 0) n then 1 else (symR S M n rs i).2 + 1)) := Lib.hid ⟨rfl, rfl⟩
      obtain ⟨hb1, hb2, hb3, hb4⟩ := symR_bd S M n rs hi
      obtain ⟨bR, oR, rfl, hcx⟩ := HCl.out i hil
      have HRs : Hid (∀ j, j < rs.length → rs.getD j 0 < n) := Lib.hid fun j hj => HR.out.2 _ (getD_mem hj)
      have hrn := HRs.out i hil
      obtain ⟨ho20, _, _⟩ := HOl.out _ hrn
      have HO := Lib.hid (HOl.out _ hrn).2
      obtain ⟨r, hr⟩ : ∃ r, r = rs.getD i 0 := ⟨_, rfl⟩
      rw [← hr] at HS1 hcx hrn ho20 HO
      clear hr
      generalize (symR S M n rs i).1 = tot at *
      generalize (symR S M n rs i).2 = ak at *
      have HQ : Hid (∀ W', Below wr.heap.size wr W' → W'.cell? ⟨w.heap.size, 0, none⟩ = some (.slice aS n cS) ∧ W'.cell? ⟨w.heap.size, 1, none⟩ = some (.slice aM N cM) ∧ W'.cell? ⟨w.heap.size, 2, none⟩ = some (.int .i64 L) ∧ W'.cell? ⟨bR, oR + i, none⟩ = some (.int .i64 (r : Int))) := Lib.hid fun W' h => by
        have hb := Jr.out.trans (h.mono Jr.out.size)
        have h1 := HRd.out W' hb
        exact ⟨h1.1, h1.2.1, h1.2.2, hcx W' hb⟩
      have B0 : Hid (Below wr.heap.size wr wr.drew) := Lib.hid (Below.refl _ _).drew
      have Q0 := Lib.hid (HQ.out _ B0.out)
      have HDw : Hid (∀ W', Below wr.heap.size wr W' → Below w.heap.size w W') := Lib.hid fun W' h => HD.out _ (Jr.out.trans (h.mono Jr.out.size))
      clear hcx
      go_upto_region 7 with fail
      go_region_held3 (fun W' => W'.cell? ⟨w.heap.size, 0, none⟩ = some (.slice aS n cS) ∧ W'.cell? ⟨w.heap.size, 1, none⟩ = some (.slice aM N cM) ∧ W'.cell? ⟨w.heap.size, 2, none⟩ = some (.int .i64 L) ∧ W'.cell? ⟨bR, oR + i, none⟩ = some (.int .i64 (r : Int)))
        (first
          | with_reducible exact Q0.out
          | with_reducible exact Q1.out)
        (first
          | ((with_reducible refine (HF.out r _ hrn (HDw.out _ B0.out)).mono ?_); rintro e z1 ⟨A1, C1, rfl, n1, hb⟩; have B1 := Lib.hid (B0.out.trans (hb.mono B0.out.size)); have Q1 := Lib.hid (HQ.out _ B1.out); have N1 := Lib.hid n1; clear hb n1))
      have B2 := Lib.hid B1.out.drew
      have Q2 := Lib.hid (HQ.out _ B2.out)
      have NR := Lib.hid (N1.out.later (Below.refl _ _).drew)
      go_upto_region 8 with fail
      go_region_held3 (fun W' => W'.cell? ⟨w.heap.size, 0, none⟩ = some (.slice aS n cS) ∧ W'.cell? ⟨w.heap.size, 1, none⟩ = some (.slice aM N cM) ∧ W'.cell? ⟨w.heap.size, 2, none⟩ = some (.int .i64 L) ∧ W'.cell? ⟨bR, oR + i, none⟩ = some (.int .i64 (r : Int)))
        (first
          | with_reducible exact Q2.out
          | with_reducible exact Q3.out)
        (first
          | ((with_reducible refine (HN.out r _ hrn (HDw.out _ B2.out)).mono ?_); rintro e z3 ⟨A2, C2, rfl, n1, hb⟩; have hb3' := Lib.hid hb; have B3 := Lib.hid (B2.out.trans (hb.mono B2.out.size)); have Q3 := Lib.hid (HQ.out _ B3.out); have N4 := Lib.hid n1; clear hb n1))
      have J3 := Lib.hid (Jr.out.trans (B3.out.mono Jr.out.size))
      have N5 := Lib.hid (NR.out.later hb3'.out)
      clear B0 B1 B2 B3 Q0 Q1 Q2 Q3 N1 NR HQ HDw Jr hb3'
      have HO1 : Hid (∀ c, c ∈ ordL M r n → c < n) := Lib.hid HO.out.1
      have HO2 : Hid (kTo S M n (ordL M r n) (codeL S M r n) (ordL M r n).length = kOf S M n r) := Lib.hid HO.out.2
      clear HO
      generalize ordL M r n = os at *
      go_wp2_with fail
      go_loopg [10, 9] os.length (fun g v u wx => ∃ j : Nat, j ≤ os.length ∧ g = os.length - j ∧ v = .int .i64 (j : Int) ∧ u = .int .i64 ((kTo S M n os (codeL S M r n) j : Nat) : Int) ∧ Hid (Below w2.heap.size w2 wx) ∧ Hid (IntsAt wx A1 (codeL S M r n)) ∧ Hid (IntsAt wx A2 (nats os)))
      case atStart => exact ⟨0, Nat.zero_le _, rfl, rfl, rfl, Lib.hid J3.out, Lib.hid N5.out, Lib.hid N4.out⟩
      case round =>
        obtain ⟨j, hj, rfl, rfl, rfl, Jr, NA, NO⟩ := hrel
        clear J3 N5 N4
        have hkj := kTo_le S M n os (codeL S M r n) j
        by_cases hjl : j < os.length
        · obtain ⟨bO, oO, rfl, _, hcO⟩ := NO.out.open (by rw [nats_length]; omega)
          have hcx := hcO j (by rw [nats_length]; exact hjl)
          rw [nth_nats _ _ hjl] at hcx
          have hxn : os.getD j 0 < n := HO1.out _ (getD_mem hjl)
          have HK := Lib.hid (kTo_succ S M n (codeL S M r n) hjl)
          generalize os.getD j 0 = x at *
          clear hcO
          have HQ : Hid (∀ W', Below wr.heap.size wr W' → W'.cell? ⟨w.heap.size, 0, none⟩ = some (.slice aS n cS) ∧ W'.cell? ⟨w.heap.size, 1, none⟩ = some (.slice aM N cM) ∧ W'.cell? ⟨w.heap.size, 2, none⟩ = some (.int .i64 L) ∧ W'.cell? ⟨bO, oO + j, none⟩ = some (.int .i64 (x : Int))) := Lib.hid fun W' h => by
            have hb := Jr.out.trans (h.mono Jr.out.size)
            have h1 := HRd.out W' hb
            exact ⟨h1.1, h1.2.1, h1.2.2, (h.cell (World.block_lt_of_cell? _ _ hcx)).trans hcx⟩
          have B0 : Hid (Below wr.heap.size wr wr.drew) := Lib.hid (Below.refl _ _).drew
          have Q0 := Lib.hid (HQ.out _ B0.out)
          have HDw : Hid (∀ W', Below wr.heap.size wr W' → Below w.heap.size w W') := Lib.hid fun W' h => HD.out _ (Jr.out.trans (h.mono Jr.out.size))
          have HL := Lib.hid fun (a b' : Option Addr) (c d : Nat) W' => HIn.out x r a b' c d W' hxn
          clear hcx
          go_upto_region 13 with fail
          by_cases heq : codeL S M x n = codeL S M r n
          · rw [if_pos heq] at HK
            rw [decide_eq_true heq] at HL
            clear heq
            go_region_held3 (fun W' => W'.cell? ⟨w.heap.size, 0, none⟩ = some (.slice aS n cS) ∧ W'.cell? ⟨w.heap.size, 1, none⟩ = some (.slice aM N cM) ∧ W'.cell? ⟨w.heap.size, 2, none⟩ = some (.int .i64 L) ∧ W'.cell? ⟨bO, oO + j, none⟩ = some (.int .i64 (x : Int)))
              (first
                | with_reducible exact Q0.out
                | with_reducible exact Q1.out
                | with_reducible exact Q2.out)
              (first
                | ((with_reducible refine (HF.out x _ hxn (HDw.out _ B0.out)).mono ?_); rintro e z1 ⟨A3, C3, rfl, n1, hb⟩; have B1 := Lib.hid (B0.out.trans (hb.mono B0.out.size)); have Q1 := Lib.hid (HQ.out _ B1.out); have N1 := Lib.hid n1; clear hb n1)
                | ((with_reducible refine (HL.out A3 A1 C3 C1 _ N1.out (NA.out.later B1.out)).mono ?_); rintro e z2 ⟨rfl, hb⟩; have B2 := Lib.hid (B1.out.trans (hb.mono B1.out.size)); have Q2 := Lib.hid (HQ.out _ B2.out); clear hb))
            have J9 := Lib.hid (Jr.out.trans (B2.out.mono Jr.out.size))
            have NA9 := Lib.hid (NA.out.later B2.out)
            have NO9 := Lib.hid (NO.out.later B2.out)
            clear B0 B1 B2 Q0 Q1 Q2 N1 HQ HDw HL Jr NA NO
            go_wp2_with fail
            go_roundg (os.length - (j + 1))
            case measure => omega
            case rel => exact ⟨j + 1, by omega, rfl, by go_num, by rw [HK.out]; go_num, Lib.hid J9.out, Lib.hid NA9.out, Lib.hid NO9.out⟩
          · rw [if_neg heq] at HK
            rw [decide_eq_false heq] at HL
            clear heq
            go_region_held3 (fun W' => W'.cell? ⟨w.heap.size, 0, none⟩ = some (.slice aS n cS) ∧ W'.cell? ⟨w.heap.size, 1, none⟩ = some (.slice aM N cM) ∧ W'.cell? ⟨w.heap.size, 2, none⟩ = some (.int .i64 L) ∧ W'.cell? ⟨bO, oO + j, none⟩ = some (.int .i64 (x : Int)))
              (first
                | with_reducible exact Q0.out
                | with_reducible exact Q1.out
                | with_reducible exact Q2.out)
              (first
                | ((with_reducible refine (HF.out x _ hxn (HDw.out _ B0.out)).mono ?_); rintro e z1 ⟨A3, C3, rfl, n1, hb⟩; have B1 := Lib.hid (B0.out.trans (hb.mono B0.out.size)); have Q1 := Lib.hid (HQ.out _ B1.out); have N1 := Lib.hid n1; clear hb n1)
                | ((with_reducible refine (HL.out A3 A1 C3 C1 _ N1.out (NA.out.later B1.out)).mono ?_); rintro e z2 ⟨rfl, hb⟩; have B2 := Lib.hid (B1.out.trans (hb.mono B1.out.size)); have Q2 := Lib.hid (HQ.out _ B2.out); clear hb))
            have J9 := Lib.hid (Jr.out.trans (B2.out.mono Jr.out.size))
            have NA9 := Lib.hid (NA.out.later B2.out)
            have NO9 := Lib.hid (NO.out.later B2.out)
            clear B0 B1 B2 Q0 Q1 Q2 N1 HQ HDw HL Jr NA NO
            go_wp2_with fail
            go_roundg (os.length - (j + 1))
            case measure => omega
            case rel => exact ⟨j + 1, by omega, rfl, by go_num, by rw [HK.out]; go_num, Lib.hid J9.out, Lib.hid NA9.out, Lib.hid NO9.out⟩
        · obtain rfl : j = os.length := by omega
          clear hjl hj
          rw [← HO2.out] at HS1
          generalize kTo S M n os (codeL S M r n) os.length = kk at *
          have m5 : IntKind.i64.wrap (ak + 1) = ak + 1 := wrapi_mid (by omega) (by omega)
          by_cases h0 : i = 0
          · rw [if_neg (by omega)] at HS1
            have t1 : decide (0 < (i : Int)) = false := decide_eq_false (by omega)
            have t2 : decide (0 < i) = false := decide_eq_false (by omega)
            clear h0
            go_upto_region 16 with fail
            go_region
            all_goals
              have J9 : Hid (Below w2.heap.size w2 wr.drew) := Lib.hid Jr.out.drew
              obtain ⟨m1, m1', m2, m3⟩ := wrap_mul (a := tot) (b := (kk : Int)) (B := 1099511627776) (by omega) hb2 (by omega) (by omega) (by decide)
              have mm := Int.min_le_right (tot * (kk : Int)) 1099511627776
              have mn : 0 ≤ min (tot * (kk : Int)) 1099511627776 := Int.le_min.2 ⟨m2, by decide⟩
              obtain ⟨m4, m4', _, _⟩ := wrap_mul (a := min (tot * (kk : Int)) 1099511627776) (b := (ak + 1)) (B := 1099511627776) mn mm (by omega) (by omega) (by decide)
              go_wp2_with fail
              go_roundg (rs.length - (i + 1))
              case measure => omega
              case rel => exact ⟨i + 1, by omega, rfl, by go_num, by rw [HS1.out.1], by rw [HS1.out.2], Lib.hid J9.out⟩
          · obtain ⟨i1, hi1⟩ : ∃ i1, i1 = i - 1 := ⟨_, rfl⟩
            have hq1 : i1 + 1 ≤ i := by omega
            have hq2 : i ≤ i1 + 1 := by omega
            have Hpos : Hid (0 < i) := Lib.hid (by omega)
            rw [← hi1] at HS1
            have w1 : IntKind.i64.wrap ((i : Int) - 1) = (i1 : Int) := by rw [wrapi_mid (by omega) (by omega)]; omega
            have t1 : decide (0 < (i : Int)) = true := decide_eq_true (by omega)
            have t2 : decide (0 < i) = true := decide_eq_true (by omega)
            have hyn := HRs.out i1 (by omega)
            have hq3 : (i1 : Int) < (rs.length : Int) := by omega
            have hq4 : i1 < rs.length := by omega
            obtain ⟨_, _, e, hcx⟩ := HCl.out i1 (by omega)
            cases e
            generalize rs.getD i1 0 = y at *
            clear hi1 h0
            have HQ : Hid (∀ W', Below wr.heap.size wr W' → W'.cell? ⟨w.heap.size, 0, none⟩ = some (.slice aS n cS) ∧ W'.cell? ⟨w.heap.size, 1, none⟩ = some (.slice aM N cM) ∧ W'.cell? ⟨w.heap.size, 2, none⟩ = some (.int .i64 L) ∧ W'.cell? ⟨bR, oR + i1, none⟩ = some (.int .i64 (y : Int))) := Lib.hid fun W' h => by
              have hb := Jr.out.trans (h.mono Jr.out.size)
              have h1 := HRd.out W' hb
              exact ⟨h1.1, h1.2.1, h1.2.2, hcx W' hb⟩
            have B0 : Hid (Below wr.heap.size wr wr.drew) := Lib.hid (Below.refl _ _).drew
            have Q0 := Lib.hid (HQ.out _ B0.out)
            have HDw : Hid (∀ W', Below wr.heap.size wr W' → Below w.heap.size w W') := Lib.hid fun W' h => HD.out _ (Jr.out.trans (h.mono Jr.out.size))
            have HL := Lib.hid fun (a b' : Option Addr) (c d : Nat) W' => HIn.out y r a b' c d W' hyn
            clear hcx
            go_upto_region 16 with fail
            by_cases heq : codeL S M y n = codeL S M r n
            · rw [if_neg (fun h => h.2 heq)] at HS1
              rw [decide_eq_true heq] at HL
              clear heq
              go_region_held3 (fun W' => W'.cell? ⟨w.heap.size, 0, none⟩ = some (.slice aS n cS) ∧ W'.cell? ⟨w.heap.size, 1, none⟩ = some (.slice aM N cM) ∧ W'.cell? ⟨w.heap.size, 2, none⟩ = some (.int .i64 L) ∧ W'.cell? ⟨bR, oR + i1, none⟩ = some (.int .i64 (y : Int)))
                (first
                  | with_reducible exact Q0.out
                  | with_reducible exact Q1.out
                  | with_reducible exact Q2.out)
                (first
                  | ((with_reducible refine (HF.out y _ hyn (HDw.out _ B0.out)).mono ?_); rintro e z1 ⟨A3, C3, rfl, n1, hb⟩; have B1 := Lib.hid (B0.out.trans (hb.mono B0.out.size)); have Q1 := Lib.hid (HQ.out _ B1.out); have N1 := Lib.hid n1; clear hb n1)
                  | ((with_reducible refine (HL.out A3 A1 C3 C1 _ N1.out (NA.out.later B1.out)).mono ?_); rintro e z2 ⟨rfl, hb⟩; have B2 := Lib.hid (B1.out.trans (hb.mono B1.out.size)); have Q2 := Lib.hid (HQ.out _ B2.out); clear hb))
              have J9 := Lib.hid (Jr.out.trans (B2.out.mono Jr.out.size))
              clear B0 B1 B2 Q0 Q1 Q2 N1 HQ HDw HL Jr NA NO
              obtain ⟨m1, m1', m2, m3⟩ := wrap_mul (a := tot) (b := (kk : Int)) (B := 1099511627776) (by omega) hb2 (by omega) (by omega) (by decide)
              have mm := Int.min_le_right (tot * (kk : Int)) 1099511627776
              have mn : 0 ≤ min (tot * (kk : Int)) 1099511627776 := Int.le_min.2 ⟨m2, by decide⟩
              obtain ⟨m4, m4', _, _⟩ := wrap_mul (a := min (tot * (kk : Int)) 1099511627776) (b := (ak + 1)) (B := 1099511627776) mn mm (by omega) (by omega) (by decide)
              go_wp2_with fail
              go_roundg (rs.length - (i + 1))
              case measure => omega
              case rel => exact ⟨i + 1, by omega, rfl, by go_num, by rw [HS1.out.1], by rw [HS1.out.2], Lib.hid J9.out⟩
            · rw [if_pos ⟨Hpos.out, heq⟩] at HS1
              rw [decide_eq_false heq] at HL
              clear heq
              go_region_held3 (fun W' => W'.cell? ⟨w.heap.size, 0, none⟩ = some (.slice aS n cS) ∧ W'.cell? ⟨w.heap.size, 1, none⟩ = some (.slice aM N cM) ∧ W'.cell? ⟨w.heap.size, 2, none⟩ = some (.int .i64 L) ∧ W'.cell? ⟨bR, oR + i1, none⟩ = some (.int .i64 (y : Int)))
                (first
                  | with_reducible exact Q0.out
                  | with_reducible exact Q1.out
                  | with_reducible exact Q2.out)
                (first
                  | ((with_reducible refine (HF.out y _ hyn (HDw.out _ B0.out)).mono ?_); rintro e z1 ⟨A3, C3, rfl, n1, hb⟩; have B1 := Lib.hid (B0.out.trans (hb.mono B0.out.size)); have Q1 := Lib.hid (HQ.out _ B1.out); have N1 := Lib.hid n1; clear hb n1)
                  | ((with_reducible refine (HL.out A3 A1 C3 C1 _ N1.out (NA.out.later B1.out)).mono ?_); rintro e z2 ⟨rfl, hb⟩; have B2 := Lib.hid (B1.out.trans (hb.mono B1.out.size)); have Q2 := Lib.hid (HQ.out _ B2.out); clear hb))
              have J9 := Lib.hid (Jr.out.trans (B2.out.mono Jr.out.size))
              clear B0 B1 B2 Q0 Q1 Q2 N1 HQ HDw HL Jr NA NO
              obtain ⟨m1, m1', m2, m3⟩ := wrap_mul (a := tot) (b := (kk : Int)) (B := 1099511627776) (by omega) hb2 (by omega) (by omega) (by decide)
              have mm := Int.min_le_right (tot * (kk : Int)) 1099511627776
              have mn : 0 ≤ min (tot * (kk : Int)) 1099511627776 := Int.le_min.2 ⟨m2, by decide⟩
              obtain ⟨m4, m4', _, _⟩ := wrap_mul (a := min (tot * (kk : Int)) 1099511627776) (b := 1) (B := 1099511627776) mn mm (by omega) (by omega) (by decide)
              go_wp2_with fail
              go_roundg (rs.length - (i + 1))
              case measure => omega
              case rel => exact ⟨i + 1, by omega, rfl, by go_num, by rw [HS1.out.1, Int.mul_one, Int.min_eq_left mm], by rw [HS1.out.2], Lib.hid J9.out⟩
    · obtain rfl : i = rs.length := by omega
      rw [HR.out.1]
      go_wp2_with fail
      go_ret
      exact ⟨rfl, HBw.out.trans (Jr.out.mono HBw.out.size)⟩
set_option maxRecDepth 100000 in
set_option maxHeartbeats 1000000 in
theorem rsame_any (Sa Ma : List Int) (La : Int) (aSa aMa : Option Addr) (cSa cMa : Nat) (Sb Mb : List Int) (Lb : Int) (aSb aMb : Option Addr) (cSb cMb : Nat) (w : World) (hva : vldB Sa Ma La = true) (hvb : vldB Sb Mb Lb = true) (h20a : Sa.length ≤ 20) (hSa : IntsAt w aSa Sa) (hMa : IntsAt w aMa Ma) (hSb : IntsAt w aSb Sb) (hMb : IntsAt w aMb Mb) :
    Calls Tryd.prog 17 #[.agg #[.slice aSa Sa.length cSa, .slice aMa Ma.length cMa, .int .i64 La], .agg #[.slice aSb Sb.length cSb, .slice aMb Mb.length cMb, .int .i64 Lb]] w fun e w' => e = .returned (.bool (decide (codeOf Sa Ma La = codeOf Sb Mb Lb))) ∧ Below w.heap.size w w' := by
  have HCa : Hid (∀ W', Below w.heap.size w W' → Calls Tryd.prog 28 #[.agg #[.slice aSa Sa.length cSa, .slice aMa Ma.length cMa, .int .i64 La]] W' fun e w' => ∃ a c, e = .returned (.slice a (codeOf Sa Ma La).length c) ∧ Own w' W'.heap.size 3 a c (ints (codeOf Sa Ma La)) ∧ Below W'.heap.size W' w') := Lib.hid fun W' h => rcode_any Sa Ma La aSa aMa cSa cMa W' hva (hSa.later h) (hMa.later h)
  have HCb : Hid (∀ W', Below w.heap.size w W' → Calls Tryd.prog 28 #[.agg #[.slice aSb Sb.length cSb, .slice aMb Mb.length cMb, .int .i64 Lb]] W' fun e w' => ∃ a c, e = .returned (.slice a (codeOf Sb Mb Lb).length c) ∧ Own w' W'.heap.size 3 a c (ints (codeOf Sb Mb Lb)) ∧ Below W'.heap.size W' w') := Lib.hid fun W' h => rcode_any Sb Mb Lb aSb aMb cSb cMb W' hvb (hSb.later h) (hMb.later h)
  have HE : Hid (∀ (A B : Option Addr) (C D : Nat) W', IntsAt W' A (codeOf Sa Ma La) → IntsAt W' B (codeOf Sb Mb Lb) → Calls Tryd.prog 30 #[.slice A (codeOf Sa Ma La).length C, .slice B (codeOf Sb Mb Lb).length D] W' fun e w' => e = .returned (.bool (decide (codeOf Sa Ma La = codeOf Sb Mb Lb))) ∧ Below W'.heap.size W' w') := Lib.hid fun A B C D W' h1 h2 => (ints_any _ _ A B C D W' (codeOf_few hva h20a) h1 h2).mono fun e w' ⟨e1, m, e2⟩ => ⟨e1, by rw [e2]; exact below_drewNN (Below.refl _ _) _⟩
  have H0 := Lib.hid (((HH.start w).alloc #[.slice aSa Sa.length cSa, .slice aMa Ma.length cMa, .int .i64 La] 24 rfl rfl).alloc #[.slice aSb Sb.length cSb, .slice aMb Mb.length cMb, .int .i64 Lb] 24 (b := w.heap.size + 1) (by simp) rfl)
  clear hva hvb hSa hMa hSb hMb h20a
  generalize decide (codeOf Sa Ma La = codeOf Sb Mb Lb) = r at *
  generalize codeOf Sa Ma La = Ca at *
  generalize codeOf Sb Mb Lb = Cb at *
  generalize Sa.length = na at *
  generalize Ma.length = Na at *
  generalize Sb.length = nb at *
  generalize Mb.length = Nb at *
  have HKS : Hid (∀ (W' : World) (s : List SlO), HH w W' [(w.heap.size, rowO 24 [.slice aSa na cSa, .slice aMa Na cMa, .int .i64 La]), (w.heap.size + 1, rowO 24 [.slice aSb nb cSb, .slice aMb Nb cMb, .int .i64 Lb])] s → W'.cell? ⟨w.heap.size, 0, none⟩ = some (.slice aSa na cSa) ∧ W'.cell? ⟨w.heap.size, 1, none⟩ = some (.slice aMa Na cMa) ∧ W'.cell? ⟨w.heap.size, 2, none⟩ = some (.int .i64 La) ∧ W'.cell? ⟨w.heap.size + 1, 0, none⟩ = some (.slice aSb nb cSb) ∧ W'.cell? ⟨w.heap.size + 1, 1, none⟩ = some (.slice aMb Nb cMb) ∧ W'.cell? ⟨w.heap.size + 1, 2, none⟩ = some (.int .i64 Lb)) := Lib.hid fun W' s h => ⟨h.cell (k := 0) (i := 0) rfl rfl, h.cell (k := 0) (i := 1) rfl rfl, h.cell (k := 0) (i := 2) rfl rfl, h.cell (k := 1) (i := 0) rfl rfl, h.cell (k := 1) (i := 1) rfl rfl, h.cell (k := 1) (i := 2) rfl rfl⟩
  go_enter Tryd.func17, Tryd.ntmps17
  go_upto_region 1 with fail
  have H4 := Lib.hid H0.out.drew
  have Q0 := Lib.hid (HKS.out _ _ H4.out)
  go_region_held3 (fun W' => W'.cell? ⟨w.heap.size, 0, none⟩ = some (.slice aSa na cSa) ∧ W'.cell? ⟨w.heap.size, 1, none⟩ = some (.slice aMa Na cMa) ∧ W'.cell? ⟨w.heap.size, 2, none⟩ = some (.int .i64 La) ∧ W'.cell? ⟨w.heap.size + 1, 0, none⟩ = some (.slice aSb nb cSb) ∧ W'.cell? ⟨w.heap.size + 1, 1, none⟩ = some (.slice aMb Nb cMb) ∧ W'.cell? ⟨w.heap.size + 1, 2, none⟩ = some (.int .i64 Lb))
    (first
      | with_reducible exact Q0.out
      | with_reducible exact Q5.out
      | with_reducible exact Q6.out
      | with_reducible exact Q7.out)
    (first
      | ((with_reducible refine (HCa.out _ H4.out.below).mono ?_); rintro e w5 ⟨A5, C5, rfl, ho, hb⟩; have H5 := Lib.hid (H4.out.addSl hb ho); have Q5 := Lib.hid (HKS.out _ _ H5.out); clear hb ho)
      | ((with_reducible refine (HCb.out _ H5.out.below).mono ?_); rintro e w6 ⟨A6, C6, rfl, ho, hb⟩; have H6 := Lib.hid (H5.out.addSl hb ho); have Q6 := Lib.hid (HKS.out _ _ H6.out); clear hb ho)
      | ((with_reducible refine (HE.out A5 A6 C5 C6 _ (H6.out.sl (k := 0) rfl).ints (H6.out.sl (k := 1) rfl).ints).mono ?_); rintro e w7 ⟨rfl, hb⟩; have H7 := Lib.hid (H6.out.call hb); have Q7 := Lib.hid (HKS.out _ _ H7.out); clear hb))
  go_wp2_with fail
  go_ret
  exact ⟨rfl, H7.out.below⟩
end Go.Proofs.YtmhhjchnjaefhaaDoor

