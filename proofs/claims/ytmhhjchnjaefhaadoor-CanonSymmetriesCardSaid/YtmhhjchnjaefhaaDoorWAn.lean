/- The example of the chapter, walked: awake of law07. Diagrams compared: Ints and Equal of the reference, diagram.Equal, slices.EqualFunc, same of law07; the number of components. canon.Code: the code of a diagram. The walks of strings.Builder's copyCheck, WriteString and WriteByte at a builder of the call's own that lies ahead of blocks which stay. -/
import Derived.WalkKit
import Derived.WalkSpells
import Derived.WalkLawsBesides
import Derived.Deep.AppendSrc
import Derived.Deep.LoopGhost
import Derived.Deep.QuietTactic
import Derived.Deep.RegionWith
import Derived.Deep.DeepMust
import Derived.Deep.DeepFit
import Derived.BigQuiet
import Derived.Lib.Hide
import Derived.Outline
import Derived.Test.YtmhhjchnjaefhaaDoorProg
import Derived.Deep.Matrix
import Derived.Deep.DeepCutAuto
import Derived.Deep.RegionLaw
import Derived.Deep.RegionHeld3
import Derived.Shelf.Small.Bits
import Derived.Shelf.Small.Wraps
import Derived.Shelf.Strconv.Itoa0
import Derived.Shelf.Sort.Plain
import Derived.Shelf.Slices.Turned
import Derived.Shelf.Slices.Equal
import Derived.Ground.Names2Prog
import Derived.Shelf.Slices.Clone
import Derived.Shelf.Slices.CompactI
import Derived.Shelf.Slices.SearchI
import Derived.Shelf.Slices.Cells
import Derived.Shelf.Slices.In.SortNone
import Derived.Shelf.Slices.Empties2
import Derived.Ground.SlgnProg
import Derived.Shelf.SlicesE.Clone
import Derived.Sort.OwnSortedInts
import Derived.Lib.AppendZeros
import Derived.Deep.RegionHeld
import Derived.Shelf.Strings.Builder1
import Derived.Shelf.Strings.BuilderF
import Derived.Shelf.Strings.BuilderK
import Derived.Shelf.Strconv.Itoa1
import Derived.Shelf.LaysM
import Derived.Shelf.Strconv.Itoa2
import Derived.Shelf.Strconv.Itoa3
import Derived.Lib.SliceRun
import Derived.Lib.Builder
import Derived.Lib.AppendStr
import Derived.Lib.Walk
import Derived.Laws.Externs
import Derived.Test.YtmhhjchnjaefhaaDoorWAa
import Derived.Test.YtmhhjchnjaefhaaDoorWAc
import Derived.Test.YtmhhjchnjaefhaaDoorWAd
import Derived.Test.YtmhhjchnjaefhaaDoorWAe
import Derived.Test.YtmhhjchnjaefhaaDoorWAf
import Derived.Test.YtmhhjchnjaefhaaDoorWAg
import Derived.Test.YtmhhjchnjaefhaaDoorWAh
import Derived.Test.YtmhhjchnjaefhaaDoorWAi
import Derived.Test.YtmhhjchnjaefhaaDoorWAj
import Derived.Test.YtmhhjchnjaefhaaDoorWAm
import Derived.Test.YtmhhjchnjaefhaaDoorWAb
import Derived.Test.YtmhhjchnjaefhaaDoorWAk
import Derived.Test.YtmhhjchnjaefhaaDoorWAl
namespace Go.Proofs.YtmhhjchnjaefhaaDoor
open Go Go.RowKit
theorem sEq_any (xs ys : List Int) (a b : Option Addr) (c d : Nat) (w : World) (hx : xs.length ≤ 1000000000) (hA : IntsAt w a xs) (hB : IntsAt w b ys) :
    Calls Tryd.prog 43 #[.slice a xs.length c, .slice b ys.length d] w fun e w' => e = .returned (.bool (decide (xs = ys))) ∧ Below w.heap.size w w' := by
  by_cases hl : xs.length = ys.length
  · rcases Nat.eq_zero_or_pos xs.length with h0 | h0
    · rw [h0]
      refine (Tryd.slices_Equal_int_empty a b c ys.length d w (by omega)).mono ?_
      rintro e w' ⟨rfl, rfl⟩
      obtain rfl := List.eq_nil_of_length_eq_zero h0
      obtain rfl := List.eq_nil_of_length_eq_zero (show ys.length = 0 by omega)
      exact ⟨rfl, Below.refl _ _⟩
    · obtain ⟨b1, o1, rfl, _, h1⟩ := hA.open h0
      obtain ⟨b2, o2, rfl, _, h2⟩ := hB.open (by omega)
      refine (Tryd.slices_Equal_int b1 o1 xs.length c b2 o2 ys.length d xs ys w (Nat.le_refl _) (Nat.le_refl _) (by omega) (by omega) h1 h2).mono ?_
      rintro e w' ⟨rfl, q, rfl⟩
      rw [List.take_of_length_le (Nat.le_refl _), List.take_of_length_le (Nat.le_refl _)]
      refine ⟨ret_bool ?_, below_drewNN (Below.refl _ _) q⟩
      by_cases e : xs = ys <;> simp [e]
  · refine (Tryd.slices_Equal_int_lens a b xs.length c ys.length d w hl).mono ?_
    rintro e w' ⟨rfl, rfl⟩
    exact ⟨ret_bool (decide_eq_false fun e => hl (by rw [e])).symm, Below.refl _ _⟩
end Go.Proofs.YtmhhjchnjaefhaaDoor


namespace Go.Proofs.YtmhhjchnjaefhaaDoor
open Go Go.RowKit
/-- Are two diagrams equal? -/
def eqD (S M : List Int) (L : Int) (T N : List Int) (K : Int) : Bool := decide (S = T ∧ M = N ∧ L = K)
set_option maxRecDepth 100000 in
set_option maxHeartbeats 4000000 in
theorem equalD_any (S M T N : List Int) (L K : Int) (aS aM bS bM : Option Addr) (cS cM dS dM : Nat) (w : World) (hSl : S.length ≤ 1000000000) (hMl : M.length ≤ 1000000000) (hS : IntsAt w aS S) (hM : IntsAt w aM M) (hT : IntsAt w bS T) (hN : IntsAt w bM N) :
    Calls Tryd.prog 22 #[.agg #[.slice aS S.length cS, .slice aM M.length cM, .int .i64 L], .agg #[.slice bS T.length dS, .slice bM N.length dM, .int .i64 K]] w fun e w' => e = .returned (.bool (eqD S M L T N K)) ∧ Below w.heap.size w w' := by
  obtain ⟨W, hW⟩ : ∃ W, W = ((w.alloc (.cells #[.slice aS S.length cS, .slice aM M.length cM, .int .i64 L] 24)).alloc (.cells #[.slice bS T.length dS, .slice bM N.length dM, .int .i64 K] 24)) := ⟨_, rfl⟩
  have h0 : HH w W [(w.heap.size, rowO 24 [.slice aS S.length cS, .slice aM M.length cM, .int .i64 L]), (w.heap.size + 1, rowO 24 [.slice bS T.length dS, .slice bM N.length dM, .int .i64 K])] [] := by rw [hW]; exact (((HH.start w).alloc #[.slice aS S.length cS, .slice aM M.length cM, .int .i64 L] 24 rfl rfl).alloc #[.slice bS T.length dS, .slice bM N.length dM, .int .i64 K] 24 (by simp) rfl)
  have H0 := Lib.hid h0
  have HI1 : Hid (∀ W', Below w.heap.size w W' → Calls Tryd.prog 43 #[.slice aS S.length cS, .slice bS T.length dS] W' fun e w' => e = .returned (.bool (decide (S = T))) ∧ Below W'.heap.size W' w') := Lib.hid fun W' h => sEq_any S T aS bS cS dS W' hSl (hS.later h) (hT.later h)
  have HI2 : Hid (∀ W', Below w.heap.size w W' → Calls Tryd.prog 43 #[.slice aM M.length cM, .slice bM N.length dM] W' fun e w' => e = .returned (.bool (decide (M = N))) ∧ Below W'.heap.size W' w') := Lib.hid fun W' h => sEq_any M N aM bM cM dM W' hMl (hM.later h) (hN.later h)
  obtain ⟨r, hr⟩ : ∃ r, r = eqD S M L T N K := ⟨_, rfl⟩
  rw [← hr]
  have Hr := Lib.hid hr
  clear h0 hS hM hT hN hSl hMl hr
  by_cases e1 : S = T
  · have g1 := decide_eq_true e1
    rw [g1] at HI1
    by_cases e2 : M = N
    · have g2 := decide_eq_true e2
      rw [g2] at HI2
      by_cases e3 : L = K
      · obtain rfl : r = true := by rw [Hr.out]; exact decide_eq_true ⟨e1, e2, e3⟩
        have t1 : (L == K) = true := by rw [e3]; exact beq_self_eq_true _
        clear e1 g1 e2 g2 e3 Hr
        go_enter Tryd.func22, Tryd.ntmps22
        go_wp2_with fail
        rw [← hW]
        clear hW
        refine (HI1.out W H0.out.below).mono ?_
        rintro e w1 ⟨rfl, hb1⟩
        have H1 := Lib.hid (H0.out.call hb1)
        clear hb1 H0
        have hc0_0 := H1.out.cell (k := 0) (i := 0) rfl rfl
        have hc0_1 := H1.out.cell (k := 0) (i := 1) rfl rfl
        have hc0_2 := H1.out.cell (k := 0) (i := 2) rfl rfl
        have hc1_0 := H1.out.cell (k := 1) (i := 0) rfl rfl
        have hc1_1 := H1.out.cell (k := 1) (i := 1) rfl rfl
        have hc1_2 := H1.out.cell (k := 1) (i := 2) rfl rfl
        go_wp2_with fail
        refine (HI2.out w1 H1.out.below).mono ?_
        rintro e w2 ⟨rfl, hb2⟩
        have H2 := Lib.hid (H1.out.call hb2)
        clear hb2 H1
        clear hc0_0 hc0_1 hc0_2 hc1_0 hc1_1 hc1_2
        have hc0_0 := H2.out.cell (k := 0) (i := 0) rfl rfl
        have hc0_1 := H2.out.cell (k := 0) (i := 1) rfl rfl
        have hc0_2 := H2.out.cell (k := 0) (i := 2) rfl rfl
        have hc1_0 := H2.out.cell (k := 1) (i := 0) rfl rfl
        have hc1_1 := H2.out.cell (k := 1) (i := 1) rfl rfl
        have hc1_2 := H2.out.cell (k := 1) (i := 2) rfl rfl
        go_wp2_with fail
        go_ret
        exact ⟨rfl, H2.out.below⟩
      · obtain rfl : r = false := by rw [Hr.out]; exact decide_eq_false (fun e => e3 e.2.2)
        have t1 : (L == K) = false := by rw [beq_eq_false_iff_ne]; exact e3
        clear e1 g1 e2 g2 e3 Hr
        go_enter Tryd.func22, Tryd.ntmps22
        go_wp2_with fail
        rw [← hW]
        clear hW
        refine (HI1.out W H0.out.below).mono ?_
        rintro e w1 ⟨rfl, hb1⟩
        have H1 := Lib.hid (H0.out.call hb1)
        clear hb1 H0
        have hc0_0 := H1.out.cell (k := 0) (i := 0) rfl rfl
        have hc0_1 := H1.out.cell (k := 0) (i := 1) rfl rfl
        have hc0_2 := H1.out.cell (k := 0) (i := 2) rfl rfl
        have hc1_0 := H1.out.cell (k := 1) (i := 0) rfl rfl
        have hc1_1 := H1.out.cell (k := 1) (i := 1) rfl rfl
        have hc1_2 := H1.out.cell (k := 1) (i := 2) rfl rfl
        go_wp2_with fail
        refine (HI2.out w1 H1.out.below).mono ?_
        rintro e w2 ⟨rfl, hb2⟩
        have H2 := Lib.hid (H1.out.call hb2)
        clear hb2 H1
        clear hc0_0 hc0_1 hc0_2 hc1_0 hc1_1 hc1_2
        have hc0_0 := H2.out.cell (k := 0) (i := 0) rfl rfl
        have hc0_1 := H2.out.cell (k := 0) (i := 1) rfl rfl
        have hc0_2 := H2.out.cell (k := 0) (i := 2) rfl rfl
        have hc1_0 := H2.out.cell (k := 1) (i := 0) rfl rfl
        have hc1_1 := H2.out.cell (k := 1) (i := 1) rfl rfl
        have hc1_2 := H2.out.cell (k := 1) (i := 2) rfl rfl
        go_wp2_with fail
        go_ret
        exact ⟨rfl, H2.out.below⟩
    · have g2 := decide_eq_false e2
      rw [g2] at HI2
      obtain rfl : r = false := by rw [Hr.out]; exact decide_eq_false (fun e => e2 e.2.1)
      clear e1 g1 e2 g2 Hr
      go_enter Tryd.func22, Tryd.ntmps22
      go_wp2_with fail
      rw [← hW]
      clear hW
      refine (HI1.out W H0.out.below).mono ?_
      rintro e w1 ⟨rfl, hb1⟩
      have H1 := Lib.hid (H0.out.call hb1)
      clear hb1 H0
      have hc0_0 := H1.out.cell (k := 0) (i := 0) rfl rfl
      have hc0_1 := H1.out.cell (k := 0) (i := 1) rfl rfl
      have hc0_2 := H1.out.cell (k := 0) (i := 2) rfl rfl
      have hc1_0 := H1.out.cell (k := 1) (i := 0) rfl rfl
      have hc1_1 := H1.out.cell (k := 1) (i := 1) rfl rfl
      have hc1_2 := H1.out.cell (k := 1) (i := 2) rfl rfl
      go_wp2_with fail
      refine (HI2.out w1 H1.out.below).mono ?_
      rintro e w2 ⟨rfl, hb2⟩
      have H2 := Lib.hid (H1.out.call hb2)
      clear hb2 H1
      clear hc0_0 hc0_1 hc0_2 hc1_0 hc1_1 hc1_2
      have hc0_0 := H2.out.cell (k := 0) (i := 0) rfl rfl
      have hc0_1 := H2.out.cell (k := 0) (i := 1) rfl rfl
      have hc0_2 := H2.out.cell (k := 0) (i := 2) rfl rfl
      have hc1_0 := H2.out.cell (k := 1) (i := 0) rfl rfl
      have hc1_1 := H2.out.cell (k := 1) (i := 1) rfl rfl
      have hc1_2 := H2.out.cell (k := 1) (i := 2) rfl rfl
      go_wp2_with fail
      go_ret
      exact ⟨rfl, H2.out.below⟩
  · have g1 := decide_eq_false e1
    rw [g1] at HI1
    obtain rfl : r = false := by rw [Hr.out]; exact decide_eq_false (fun e => e1 e.1)
    clear e1 g1 Hr
    go_enter Tryd.func22, Tryd.ntmps22
    go_wp2_with fail
    rw [← hW]
    clear hW
    refine (HI1.out W H0.out.below).mono ?_
    rintro e w1 ⟨rfl, hb1⟩
    have H1 := Lib.hid (H0.out.call hb1)
    clear hb1 H0
    have hc0_0 := H1.out.cell (k := 0) (i := 0) rfl rfl
    have hc0_1 := H1.out.cell (k := 0) (i := 1) rfl rfl
    have hc0_2 := H1.out.cell (k := 0) (i := 2) rfl rfl
    have hc1_0 := H1.out.cell (k := 1) (i := 0) rfl rfl
    have hc1_1 := H1.out.cell (k := 1) (i := 1) rfl rfl
    have hc1_2 := H1.out.cell (k := 1) (i := 2) rfl rfl
    go_wp2_with fail
    go_ret
    exact ⟨rfl, H1.out.below⟩
/-- A list of diagrams that is read. -/
def RdD (w : World) (A : Option Addr) (ds : List Dgm) : Prop := ∀ (i : Nat) (d : Dgm), ds[i]? = some d → ∃ b o a c e f, A = some ⟨b, o, none⟩ ∧ w.cell? ⟨b, o + i * 3, none⟩ = some (.slice a d.1.length c) ∧ w.cell? ⟨b, o + i * 3 + 1, none⟩ = some (.slice e d.2.1.length f) ∧ w.cell? ⟨b, o + i * 3 + 2, none⟩ = some (.int .i64 d.2.2) ∧ IntsAt w a d.1 ∧ IntsAt w e d.2.1
theorem DLO.rd {w : World} {B B0 : Nat} {A : Option Addr} {C : Nat} {ds : List Dgm} (h : DLO w B B0 A C ds) : RdD w A ds := fun i d hd => by
  have hi : i < ds.length := (List.getElem?_eq_some_iff.1 hd).1
  obtain ⟨b, o, rfl, hc⟩ := h.open (by omega)
  obtain ⟨a, c, e, f, h1, h2, h3, h4, h5⟩ := hc i d hd
  exact ⟨b, o, a, c, e, f, rfl, h1, h2, h3, h4.at, h5.at⟩
theorem RdD.later {w w' : World} {A : Option Addr} {ds : List Dgm} (h : RdD w A ds) (hb : Below w.heap.size w w') : RdD w' A ds := fun i d hd => by
  obtain ⟨b, o, a, c, e, f, rfl, h1, h2, h3, h4, h5⟩ := h i d hd
  exact ⟨b, o, a, c, e, f, rfl, (hb.cell (p := ⟨b, o + i * 3, none⟩) (World.block_lt_of_cell? _ _ h1)).trans h1, (hb.cell (p := ⟨b, o + i * 3 + 1, none⟩) (World.block_lt_of_cell? _ _ h2)).trans h2, (hb.cell (p := ⟨b, o + i * 3 + 2, none⟩) (World.block_lt_of_cell? _ _ h3)).trans h3, h4.later hb, h5.later hb⟩
end Go.Proofs.YtmhhjchnjaefhaaDoor


namespace Go.Proofs.YtmhhjchnjaefhaaDoor
open Go Go.RowKit
theorem CellsOf.rd {w : World} {B B0 : Nat} {E : TypeId} {A : Option Addr} {c : Nat} {vs : List Value} {ds : List Dgm} (h : CellsOf w B0 vs ds) (ho : Own w B E A c vs) : RdD w A ds := fun i d hd => by
  have hi : i < ds.length := (List.getElem?_eq_some_iff.1 hd).1
  have hl := h.1
  obtain ⟨b, o, rfl, _, _, hc, _⟩ := ho.open (by omega)
  obtain ⟨a, c, e, f, h1, h2, h3, h4, h5⟩ := h.2 i d hd
  exact ⟨b, o, a, c, e, f, rfl, hc _ _ h1, by rw [Nat.add_assoc]; exact hc _ _ h2, by rw [Nat.add_assoc]; exact hc _ _ h3, h4.at, h5.at⟩
set_option maxRecDepth 100000 in
set_option maxHeartbeats 1000000 in
theorem code_no (S M : List Int) (L : Int) (aS aM : Option Addr) (cS cM : Nat) (w : World) (hSl : S.length ≤ 1000000000) (hMl : M.length ≤ 1000000000) (hv : vldB S M L = false) (hS : IntsAt w aS S) (hM : IntsAt w aM M) :
    Calls Tryd.prog 25 #[.agg #[.slice aS S.length cS, .slice aM M.length cM, .int .i64 L]] w fun e w' => e = .returned (.slice none 0 0) ∧ Below w.heap.size w w' := by
  have HV : Hid (∀ W', Below w.heap.size w W' → Calls Tryd.prog 18 #[.agg #[.slice aS S.length cS, .slice aM M.length cM, .int .i64 L]] W' fun e w' => e = .returned (.bool false) ∧ Below W'.heap.size W' w') := Lib.hid fun W' h => by
    have g := valid_any S M L aS aM cS cM W' (by omega) (by omega) (hS.later h) (hM.later h)
    rw [hv] at g; exact g
  have H0 := Lib.hid ((HH.start w).alloc #[.slice aS S.length cS, .slice aM M.length cM, .int .i64 L] 24 rfl rfl)
  clear hv hS hM
  generalize S.length = n at *
  generalize M.length = N at *
  go_enter Tryd.func25, Tryd.ntmps25
  have k00 := H0.out.cell (k := 0) (i := 0) rfl rfl
  have k01 := H0.out.cell (k := 0) (i := 1) rfl rfl
  have k02 := H0.out.cell (k := 0) (i := 2) rfl rfl
  go_wp2_with fail
  clear k00 k01 k02
  refine (HV.out _ H0.out.below).mono ?_
  rintro e w1 ⟨rfl, hb⟩
  have H1 := Lib.hid (H0.out.call hb)
  clear hb H0 
  go_wp2_with fail
  go_ret
  exact ⟨rfl, H1.out.below⟩
set_option maxRecDepth 100000 in
set_option maxHeartbeats 1000000 in
theorem code_yes (S M : List Int) (L : Int) (aS aM : Option Addr) (cS cM : Nat) (w : World) (hv : vldB S M L = true) (h20 : S.length ≤ 20) (hS : IntsAt w aS S) (hM : IntsAt w aM M) :
    Calls Tryd.prog 25 #[.agg #[.slice aS S.length cS, .slice aM M.length cM, .int .i64 L]] w fun e w' => ∃ a c, e = .returned (.slice a (codeOf S M L).length c) ∧ Own w' w.heap.size 3 a c (ints (codeOf S M L)) ∧ Below w.heap.size w w' := by
  have hs := vldB_shape hv
  have hMl := hs.len
  have HV : Hid (∀ W', Below w.heap.size w W' → Calls Tryd.prog 18 #[.agg #[.slice aS S.length cS, .slice aM M.length cM, .int .i64 L]] W' fun e w' => e = .returned (.bool true) ∧ Below W'.heap.size W' w') := Lib.hid fun W' h => by
    have g := valid_any S M L aS aM cS cM W' (by omega) (by omega) (hS.later h) (hM.later h)
    rw [hv] at g; exact g
  have HP : Hid (∀ W', Below w.heap.size w W' → Calls Tryd.prog 44 #[.agg #[.slice aS S.length cS, .slice aM M.length cM, .int .i64 L]] W' fun e w' => ∃ A C ys, e = .returned (.slice A ys.length C) ∧ Hid (codeY L ys ys.length = codeOf S M L ∧ ys.length ≤ 20 ∧ ∀ i, i < ys.length → (ys.getD i ([], [], 0)).1.length ≤ 100 ∧ (ys.getD i ([], [], 0)).2.1.length ≤ 20 ∧ (codeY L ys i).length ≤ 2100) ∧ RdD w' A ys ∧ Below W'.heap.size W' w') := Lib.hid fun W' h => by
    refine (cpieces_any S M L aS aM cS cM W' hv h20 (hS.later h) (hM.later h)).mono ?_
    rintro e w' ⟨A, C, ys, vs, rfl, hsr, ho, hc, hb⟩
    have hfew : ∀ p, p ∈ ys → p.1.length ≤ 100 ∧ p.2.1.length ≤ 20 := fun p hp => by
      have := piece_few (fun x hx => hs.mt_lt hx) hsr hp
      omega
    have hyl : ys.length ≤ 20 := by
      rw [hsr.perm.length_eq, List.length_map]; exact Nat.le_trans (grp_len M S.length) h20
    refine ⟨A, C, ys, rfl, Lib.hid ⟨codeY_all hsr, hyl, fun i hi => ?_⟩, hc.rd ho, hb⟩
    have hm : ys.getD i ([], [], 0) ∈ ys := by rw [List.getD_eq_getElem?_getD, List.getElem?_eq_getElem hi]; exact List.getElem_mem _
    have h3 := codeY_few L (fun p hp => (hfew p hp).1) i (Nat.le_of_lt hi)
    have h4 := Nat.mul_le_mul (show i ≤ 20 by omega) (Nat.le_refl (100 + 1))
    exact ⟨(hfew _ hm).1, (hfew _ hm).2, by omega⟩
  obtain ⟨i0, hi0, hz0, hz1, hz2⟩ := info_parts Tryd.info3
  have H0 := Lib.hid ((HH.start w).alloc #[.slice aS S.length cS, .slice aM M.length cM, .int .i64 L] 24 rfl rfl)
  clear hv hS hM hs hMl h20
  generalize codeOf S M L = CO at *
  generalize S.length = n at *
  generalize M.length = N at *
  go_enter Tryd.func25, Tryd.ntmps25
  have k00 := H0.out.cell (k := 0) (i := 0) rfl rfl
  have k01 := H0.out.cell (k := 0) (i := 1) rfl rfl
  have k02 := H0.out.cell (k := 0) (i := 2) rfl rfl
  go_wp2_with fail
  clear k00 k01 k02
  refine (HV.out _ H0.out.below).mono ?_
  rintro e w1 ⟨rfl, hb⟩
  have H1 := Lib.hid (H0.out.call hb)
  clear hb H0 HV
  have k00 := H1.out.cell (k := 0) (i := 0) rfl rfl
  have k01 := H1.out.cell (k := 0) (i := 1) rfl rfl
  have k02 := H1.out.cell (k := 0) (i := 2) rfl rfl
  go_wp2_with fail
  clear k00 k01 k02
  refine (HP.out _ H1.out.below).mono ?_
  rintro e w2 ⟨A, C, ys, rfl, HY, hrd, hb⟩
  have H2 := Lib.hid (H1.out.call hb)
  have HR := Lib.hid hrd
  clear hrd hb H1 HP
  have hyl : ys.length ≤ 20 := HY.out.2.1
  have HBw := Lib.hid H2.out.below
  have k2 := H2.out.cell (k := 0) (i := 2) rfl rfl
  have J0 : Hid (HH w2 (w2.alloc (.cells #[.int .i64 L, .int .i64 (ys.length : Int)] 3)) [] [⟨some ⟨w2.heap.size, 0, none⟩, 2, 3, ints (codeY L ys 0)⟩]) := Lib.hid ((HH.start w2).addSl ((Below.refl _ _).alloc (Nat.le_refl _) _) (Own.made #[.int .i64 L, .int .i64 (ys.length : Int)] (Nat.le_refl _)))
  go_wp2_with fail
  clear k2 H2
  go_loopg [19, 4] ys.length (fun g v s4 wr => ∃ (i : Nat) (A2 : Option Addr) (d : Nat), i ≤ ys.length ∧ g = ys.length - i ∧ v = .int .i64 i ∧ s4 = .slice A2 (codeY L ys i).length d ∧ HH w2 wr [] [⟨A2, d, 3, ints (codeY L ys i)⟩])
  case atStart => exact ⟨0, _, 2, Nat.zero_le _, rfl, rfl, rfl, J0.out⟩
  case round =>
    obtain ⟨i, A2, d, hi, rfl, rfl, rfl, hh⟩ := hrel
    have Jr := Lib.hid hh
    clear hh J0
    by_cases hil : i < ys.length
    · obtain ⟨b, o, a, c, e, f, rfl, g1, g2, g3, h4, h5⟩ := HR.out i _ (getD_some (d := ([], [], 0)) hil)
      have h1 := (Jr.out.below.cell (p := ⟨b, o + i * 3, none⟩) (World.block_lt_of_cell? _ _ g1)).trans g1
      have h2 := (Jr.out.below.cell (p := ⟨b, o + i * 3 + 1, none⟩) (World.block_lt_of_cell? _ _ g2)).trans g2
      have h3 := (Jr.out.below.cell (p := ⟨b, o + i * 3 + 2, none⟩) (World.block_lt_of_cell? _ _ g3)).trans g3
      clear g1 g2 g3
      have HC1 := Lib.hid (codeY_succ L hil)
      obtain ⟨hb1, hb2, hb3⟩ := HY.out.2.2 i hil
      generalize ys.getD i ([], [], 0) = dd at *
      obtain ⟨Xd, Yd, r3⟩ := dd
      dsimp only at *
      have HI := Lib.hid h4
      clear h4 h5
      have hX : Hid ((ints Xd).length = Xd.length * 1) := Lib.hid (by rw [ints_length, Nat.mul_one])
      have Hcy : Hid ((ints (codeY L ys i)).length = (codeY L ys i).length) := Lib.hid (by rw [ints_length])
      generalize hl2 : Yd.length = l2 at *
      have HC2 : Hid (codeY L ys (i + 1) = codeY L ys i ++ [(l2 : Int)] ++ Xd) := HC1
      clear hl2 HC1
      have Hl2 : Hid ((codeY L ys (i + 1)).length = (codeY L ys i).length + 1 + Xd.length) := Lib.hid (by rw [HC2.out, List.length_append, List.length_append]; rfl)
      generalize codeY L ys i = cy at *
      generalize cy.length = ly at *
      generalize Xd.length = l1 at *
      have K0 := Lib.hid (Jr.out.alloc #[.slice a l1 c, .slice e l2 f, .int .i64 r3] 51 (b := wr.heap.size) rfl rfl)
      go_upto_region 8 with fail
      clear h1 h2 h3 Jr
      generalize wr.alloc (.cells #[.slice a l1 c, .slice e l2 f, .int .i64 r3] 51) = v1 at *
      generalize wr.heap.size = q at *
      have y1 := K0.out.cell (k := 0) (i := 1) rfl rfl
      have Ja := Lib.hid (K0.out.call ((Below.refl _ _).alloc (Nat.le_refl _) (.cells #[.int .i64 (l2 : Int)] 3)))
      have Hc0 : Hid ((v1.alloc (.cells #[.int .i64 (l2 : Int)] 3)).cell? ⟨v1.heap.size, 0, none⟩ = some (.int .i64 (l2 : Int))) := Lib.hid ((Row.new v1 #[.int .i64 (l2 : Int)] 3).cell 0)
      have Hl1 := Lib.hid Ja.out.below.size
      go_upto_region 9 with (with_reducible refine wpList_append_one rfl (.tmp 23) (.tmp 27) 22 rfl w2.heap.size 3 i0 (.int .i64 0) 8 Tryd.underlying22 hi0 hz0 hz1 hz2 rfl A2 ly d (ints cy) rfl Hcy.out (Ja.out.sl (k := 0) rfl) _ 1 (.int .i64 (l2 : Int)) rfl Hc0.out rfl (by omega) (by omega) Hl1.out ?_; intro A3 e3 w7 hO2 hT2 hA2; have HO3 := Lib.hid hO2; have HT3 := Lib.hid hT2; have HA3 := Lib.hid hA2; clear hO2 hT2 hA2)
      have J8 : Hid (HH w2 w7 [(q, rowO 51 [.slice a l1 c, .slice e l2 f, .int .i64 r3])] [⟨A3, e3, 3, ints (cy ++ [(l2 : Int)])⟩]) := Lib.hid (by
        have h := Ja.out.grow (k := 0) rfl HO3.out HT3.out HA3.out
        rw [← ints_snoc]; exact h)
      clear HO3 HT3 HA3 Ja K0 Hc0 Hl1 y1
      have y0 := J8.out.cell (k := 0) (i := 0) rfl rfl
      have Hus : Hid (VAt w7 a (ints Xd)) := Lib.hid (HI.out.later J8.out.below)
      have Hu1 : Hid (∀ u ∈ ints Xd, u.oneCell' = true) := Lib.hid (by
        intro u hu
        obtain ⟨x, _, rfl⟩ := List.mem_map.1 hu
        rfl)
      have Hl1 := Lib.hid J8.out.below.size
      have HO1 : Hid (Own w7 w2.heap.size 3 A3 (e3 * 1) (ints (cy ++ [(l2 : Int)]))) := Lib.hid (by rw [Nat.mul_one]; exact J8.out.sl (k := 0) rfl)
      have Hvl : Hid ((ints (cy ++ [(l2 : Int)])).length = (ly + 1) * 1) := Lib.hid (by rw [ints_length, List.length_append, Nat.mul_one, ← Hcy.out, ints_length]; rfl)
      have hdc : ly + 1 ≤ e3 := by have := HO1.out.size; have := Hvl.out; omega
      have Hzc : Hid ((Value.int .i64 0).cells.size = 1) := Lib.hid rfl
      go_wp2_with (with_reducible refine wpList_append_wide rfl (.tmp 29) (.tmp 31) 22 22 rfl w2.heap.size 3 i0 _ 8 1 Tryd.underlying22 Tryd.underlying22 hi0 hz0 hz1 (by decide) hz2 Hzc.out A3 (ly + 1) e3 (ints (cy ++ [(l2 : Int)])) rfl Hvl.out hdc HO1.out a l1 c (ints Xd) rfl hX.out Hus.out Hu1.out (by omega) (by omega) Hl1.out ?_; intro A7 e7 w8 hle hO7 hT7 hA7; have HO7 := Lib.hid hO7; have HT7 := Lib.hid hT7; have HA7 := Lib.hid hA7; clear hO7 hT7 hA7)
      have J9 : Hid (HH w2 w8 [] [⟨A7, e7, 3, ints (codeY L ys (i + 1))⟩]) := Lib.hid (by
        have ho := HO7.out
        rw [Nat.mul_one] at ho
        have h := J8.out.grow (k := 0) rfl ho HT7.out HA7.out
        have e : ints (cy ++ [(l2 : Int)]) ++ ints Xd = ints (codeY L ys (i + 1)) := by rw [HC2.out]; simp only [ints, List.map_append]
        rw [← e]
        exact h.forgetK (List.nil_sublist _))
      go_roundg (ys.length - (i + 1))
      case measure => omega
      case rel => exact ⟨i + 1, A7, e7, by omega, rfl, by go_num, by rw [Hl2.out], J9.out⟩
    · obtain rfl : i = ys.length := by omega
      have HE : Hid (codeY L ys ys.length = CO) := Lib.hid HY.out.1
      rw [HE.out] at Jr
      rw [HE.out]
      clear HE
      go_wp2_with fail
      go_ret
      exact ⟨A2, d, rfl, (Jr.out.sl (k := 0) rfl).mono HBw.out.size, HBw.out.trans (Jr.out.below.mono HBw.out.size)⟩
end Go.Proofs.YtmhhjchnjaefhaaDoor


namespace Go.Proofs.YtmhhjchnjaefhaaDoor
open Go Go.RowKit
theorem bsize : (Tryd.prog.info? 58).map (·.size) = some 2 := by kernel_rfl
theorem blies : liesAt Tryd.prog Tryd.prog.depth 58 (2 / Tryd.prog.cellsOf 58) 0 58 1 = true := by kernel_rfl
theorem byteInfo : (Tryd.prog.info? 5).map (fun i => (i.zero, i.size, i.bytes)) = some (some (.int .u8 0), 1, 1) := by kernel_rfl
/-- A builder in block b whose bytes lie from G on. -/
def BAt (G b : Nat) (p : Value) (bs : List Value) (w : World) : Prop := ∃ v, w.heap[b]? = some (.cells #[p, v] 58 (0, 0)) ∧ w.ownsRow G 5 1 v bs.length bs ∧ v.ownBlock ≠ some b
def IsB (G b : Nat) (bs : List Value) (w : World) : Prop := BAt G b (.pointer none) bs w ∨ BAt G b (.pointer (some ⟨b, 0, none⟩)) bs w
/-- The old blocks stay, but for b. -/
structure Kp (G b : Nat) (w w' : World) : Prop where
  os : w'.os = w.os
  tape : w'.tape = w.tape
  output : w'.output = w.output
  size : w.heap.size ≤ w'.heap.size
  block : ∀ i, i < G → i ≠ b → w'.heap[i]? = w.heap[i]?
theorem Kp.refl (G b : Nat) (w : World) : Kp G b w w := ⟨rfl, rfl, rfl, Nat.le_refl _, fun _ _ _ => rfl⟩
theorem Kp.trans {G b : Nat} {w w1 w2 : World} (h : Kp G b w w1) (k : Kp G b w1 w2) : Kp G b w w2 := ⟨k.os.trans h.os, k.tape.trans h.tape, k.output.trans h.output, Nat.le_trans h.size k.size, fun i hi hb => (k.block i hi hb).trans (h.block i hi hb)⟩
theorem Kp.below {G b : Nat} {w w1 w2 : World} (h : Kp G b w w1) (k : Below w1.heap.size w1 w2) (hG : G ≤ w1.heap.size) : Kp G b w w2 := h.trans ⟨k.os, k.tape, k.output, k.size, fun i hi _ => k.block i (by omega)⟩
theorem Kp.set {G b : Nat} {w w1 : World} (h : Kp G b w w1) (i : Nat) (v : Value) : Kp G b w (w1.setCell ⟨b, i, none⟩ v) := h.trans ⟨rfl, rfl, rfl, by simp, fun j _ hb => Below.heap_setCell w1 ⟨b, i, none⟩ v j hb⟩
theorem lt_of_some {w : World} {b : Nat} {x : Obj} (h : w.heap[b]? = some x) : b < w.heap.size := (Array.getElem?_eq_some_iff.1 h).1
theorem BAt.later {G b : Nat} {p : Value} {bs : List Value} {w w' : World} (h : BAt G b p bs w) (hb : Below w.heap.size w w') : BAt G b p bs w' := by
  obtain ⟨v, h1, ⟨h2, h3⟩, h4⟩ := h
  refine ⟨v, (hb.block b (lt_of_some h1)).trans h1, ⟨h2, ?_⟩, h4⟩
  rcases h3 with h3 | ⟨g, cap, cur, e, k1, k2, k3⟩
  · exact .inl h3
  · exact .inr ⟨g, cap, cur, e, k1, (hb.block g (lt_of_some k2)).trans k2, k3⟩
theorem IsB.later {G b : Nat} {bs : List Value} {w w' : World} (h : IsB G b bs w) (hb : Below w.heap.size w w') : IsB G b bs w' := by
  rcases h with h | h
  · exact .inl (h.later hb)
  · exact .inr (h.later hb)
theorem IsB.fresh {G b : Nat} {w : World} (h : w.heap[b]? = some (.cells #[.pointer none, .slice none 0 0] 58 (0, 0))) : IsB G b [] w := .inl ⟨_, h, World.ownsRow_nil _ _ _ _, by simp [Value.ownBlock]⟩
theorem IsB.lib {G b : Nat} {bs : List Value} {w : World} (h : IsB G b bs w) (hb : b ≤ G) : Lib.IsBuilder 58 5 b b bs w := by
  have key : ∀ p, BAt G b p bs w → Lib.BuilderAt 58 5 b b p bs w := fun p ⟨v, h1, ⟨h2, h3⟩, h4⟩ => by
    refine ⟨Nat.le_refl _, v, h1, ⟨h2, ?_⟩, h4⟩
    rcases h3 with h3 | ⟨g, cap, cur, e, k1, k2⟩
    · exact .inl h3
    · exact .inr ⟨g, cap, cur, e, Nat.le_trans hb k1, k2⟩
  rcases h with h | h
  · exact .inl (key _ h)
  · exact .inr (key _ h)
set_option maxRecDepth 100000 in
set_option maxHeartbeats 1000000 in
theorem ccheck_used (b : Nat) (w : World) (h0 : w.cell? ⟨b, 0, none⟩ = some (.pointer (some ⟨b, 0, none⟩))) :
    Calls Tryd.prog 72 #[.pointer (some ⟨b, 0, none⟩)] w fun e w' => e = .returned (.tuple #[]) ∧ w' = w := by
  obtain ⟨j, hj, _⟩ := Option.map_eq_some_iff.1 bsize
  go_enter Tryd.func72, Tryd.ntmps72
  go_wp2_with fail
  rw [Lib.run_neq_ptr_same w _ Tryd.underlying55 hj]
  go_wp2_with fail
  refine bodyPost_end (results_none rfl _ _ _) rfl ?_
  exact ⟨rfl, rfl⟩
set_option maxRecDepth 100000 in
set_option maxHeartbeats 1000000 in
theorem ccheck_fresh (b : Nat) (w : World) (h0 : w.cell? ⟨b, 0, none⟩ = some (.pointer none)) (hsh : w.shape? b = some (58, 2)) (hfz : w.frozen? ⟨b, 0, none⟩ = false) :
    Calls Tryd.prog 72 #[.pointer (some ⟨b, 0, none⟩)] w fun e w' => e = .returned (.tuple #[]) ∧ w' = w.setCell ⟨b, 0, none⟩ (.pointer (some ⟨b, 0, none⟩)) := by
  obtain ⟨j, hj, hjs⟩ := Option.map_eq_some_iff.1 bsize
  go_enter Tryd.func72, Tryd.ntmps72
  go_wp2_with fail
  rw [Lib.run_to_unsafe w ⟨b, 0, none⟩ Tryd.underlying55 Tryd.underlying82 hj (by rw [hjs]; decide) hsh (Nat.zero_lt_succ 1)]
  simp only [Result.andThen]
  rw [Oper.upon_value]
  go_wp2_with fail
  rw [run_callFunc_extern Tryd.func78 (by kernel_rfl) (by kernel_rfl) (by kernel_rfl) (e := Extern.AbiNoEscape.same) (by kernel_rfl)]
  rw [Lib.run_noEscape]
  simp only [Result.andThen]
  rw [Oper.upon_value]
  go_wp2_with fail
  rw [Lib.run_from_unsafe w ⟨b, 0, none⟩ Tryd.underlying82 Tryd.underlying55 hj hsh blies]
  simp only [Result.andThen]
  rw [Oper.upon_value]
  go_wp2_with fail
  refine bodyPost_end (results_none rfl _ _ _) rfl ?_
  exact ⟨rfl, rfl⟩
theorem ccheck_any (G b : Nat) (bs : List Value) (w : World) (h : IsB G b bs w) :
    Calls Tryd.prog 72 #[.pointer (some ⟨b, 0, none⟩)] w fun e w' => e = .returned (.tuple #[]) ∧ (BAt G b (.pointer (some ⟨b, 0, none⟩)) bs w' ∧ Kp G b w w') := by
  have hl : Lib.IsBuilder 58 5 0 b bs w := by
    have key : ∀ p, BAt G b p bs w → Lib.BuilderAt 58 5 0 b p bs w := fun p ⟨v, h1, ⟨h2, h3⟩, h4⟩ => by
      refine ⟨Nat.zero_le _, v, h1, ⟨h2, ?_⟩, h4⟩
      rcases h3 with h3 | ⟨g, cap, cur, e, _, k2⟩
      · exact .inl h3
      · exact .inr ⟨g, cap, cur, e, Nat.zero_le _, k2⟩
    rcases h with h | h
    · exact .inl (key _ h)
    · exact .inr (key _ h)
  rcases h with ⟨v, h1, h2, h3⟩ | h
  · rcases hl with hl | hl
    · refine (ccheck_fresh b w hl.cell0 hl.shape hl.frozen0).mono ?_
      rintro e w' ⟨rfl, rfl⟩
      refine ⟨rfl, ⟨v, ?_, ?_, h3⟩, (Kp.refl G b w).set 0 _⟩
      · have := heap_setCell_same w b 0 _ 58 (.pointer (some ⟨b, 0, none⟩)) h1
        simpa using this
      · obtain ⟨h2, h4⟩ := h2
        refine ⟨h2, ?_⟩
        rcases h4 with h4 | ⟨g, cap, cur, e, k1, k2, k3⟩
        · exact .inl h4
        · refine .inr ⟨g, cap, cur, e, k1, (Below.heap_setCell w ⟨b, 0, none⟩ _ g fun e2 => h3 ?_).trans k2, k3⟩
          have e2 : g = b := e2
          rw [e, ← e2]; rfl
    · exact absurd (hl.cell0.symm.trans (Lib.cell_of_heap h1 0)) (by simp)
  · rcases hl with hl | hl
    · obtain ⟨v, h1, _⟩ := h
      exact absurd (hl.cell0.symm.trans (Lib.cell_of_heap h1 0)) (by simp)
    · refine (ccheck_used b w hl.cell0).mono ?_
      rintro e w' ⟨rfl, rfl⟩
      exact ⟨rfl, h, Kp.refl _ _ _⟩
theorem own_ge {w : World} {G n : Nat} {v : Value} {bs : List Value} (h : w.ownsRow G 5 1 v n bs) {k : Nat} (hk : v.ownBlock = some k) : G ≤ k := by
  rcases h.2 with ⟨e, _⟩ | ⟨g, cap, cur, e, k1, _⟩
  · rw [e] at hk; simp [Value.ownBlock] at hk
  · rw [e] at hk; simp [Value.ownBlock] at hk; omega
theorem own_ne {w : World} {G n b : Nat} {v : Value} {bs : List Value} {cs : Array Value} (h : w.ownsRow G 5 1 v n bs) (hb : w.heap[b]? = some (.cells cs 58 (0, 0))) : v.ownBlock ≠ some b := Lib.ownBlock_ne h hb (by decide)
theorem put_b {w : World} {G b : Nat} {p v v' : Value} {bs : List Value} (hb : w.heap[b]? = some (.cells #[p, v] 58 (0, 0))) (hown : w.ownsRow G 5 1 v' bs.length bs) : BAt G b p bs (w.setCell ⟨b, 1, none⟩ v') := by
  have hne := own_ne hown hb
  refine ⟨v', ?_, ⟨hown.1, ?_⟩, hne⟩
  · have := heap_setCell_same w b 1 _ 58 v' hb
    simpa using this
  · rcases hown.2 with h | ⟨g, cap, cur, e, k1, k2, k3⟩
    · exact .inl h
    · refine .inr ⟨g, cap, cur, e, k1, (Below.heap_setCell w ⟨b, 1, none⟩ _ g fun e2 => hne ?_).trans k2, k3⟩
      have e2 : g = b := e2
      rw [e, ← e2]; rfl
set_option maxRecDepth 100000 in
set_option maxHeartbeats 2000000 in
theorem wstring_any (G b : Nat) (bs : List Value) (s : ByteArray) (w : World) (h : IsB G b bs w) (hlen : bs.length + s.size ≤ 1000000) (hG : G ≤ w.heap.size) :
    Calls Tryd.prog 52 #[.pointer (some ⟨b, 0, none⟩), .string s] w fun e w' => e = .returned (.tuple #[.int .i64 s.size, .nilIface]) ∧ (IsB G b (bs ++ Lib.strCells s) w' ∧ Kp G b w w') := by
  obtain ⟨i0, hi, hz0, hz1, hz2⟩ := info_parts byteInfo
  have HC := Lib.hid (ccheck_any G b bs w h)
  clear h
  go_enter Tryd.func52, Tryd.ntmps52
  go_wp2_with fail
  refine HC.out.mono ?_
  rintro e w1 ⟨rfl, ⟨v, hbk, hown, hne⟩, hk1⟩
  have c0 : w1.cell? ⟨b, 0, none⟩ = some (.pointer (some ⟨b, 0, none⟩)) := by rw [Lib.cell_of_heap hbk]; rfl
  have c1 : w1.cell? ⟨b, 1, none⟩ = some v := by rw [Lib.cell_of_heap hbk]; rfl
  have hs1 := hk1.size
  go_wp2_with (at_builtin; refine Lib.wpList_append_own_string _ rfl _ _ 56 9 rfl G 5 i0 Tryd.underlying56 Tryd.underlying9 hi hz0 hz1 hz2 _ _ _ rfl hown s rfl ?c3 ?c4 ?c5 ?_)
  case c3 => unfold maxLen; omega
  case c4 => omega
  case c5 => omega
  intro v' w2 hown' hgrow _
  have hb2 : w2.heap[b]? = some (.cells #[.pointer (some ⟨b, 0, none⟩), v] 58 (0, 0)) := (hgrow.block b (lt_of_some hbk) (fun e => hne e.symm)).trans hbk
  have d0 : w2.cell? ⟨b, 0, none⟩ = some (.pointer (some ⟨b, 0, none⟩)) := by rw [Lib.cell_of_heap hb2]; rfl
  have d1 : w2.cell? ⟨b, 1, none⟩ = some v := by rw [Lib.cell_of_heap hb2]; rfl
  have f1 : w2.frozen? ⟨b, 1, none⟩ = false := Lib.frozen_of_heap hb2 1
  obtain ⟨ao, n', cap, rfl⟩ : ∃ ao n' cap, v' = .slice ao n' cap := by
    rcases hown'.2 with ⟨hv, _⟩ | ⟨g, cap, cur, hv, _⟩
    · exact ⟨_, _, _, hv⟩
    · exact ⟨_, _, _, hv⟩
  have hput := Lib.hid (put_b (G := G) hb2 (bs := bs ++ Lib.strCells s) (by simpa [Lib.strCells_length] using hown'))
  have hkk : Kp G b w w2 := hk1.trans ⟨hgrow.os, hgrow.tape, hgrow.output, hgrow.size, fun i hi hb => hgrow.block i (by omega) fun e => by have := own_ge hown e.symm; omega⟩
  have hbel := Lib.hid (hkk.set 1 (.slice ao n' cap))
  clear hown' hgrow hown hne hk1 hkk
  go_wp2_with fail
  refine bodyPost_ret (v := .tuple #[.int .i64 s.size, .nilIface]) (by simp [results, Tryd.results52, go_sem]) rfl ?_
  exact ⟨rfl, .inr hput.out, hbel.out⟩
set_option maxRecDepth 100000 in
set_option maxHeartbeats 2000000 in
theorem wbyte_any (G b : Nat) (bs : List Value) (c : Int) (w : World) (h : IsB G b bs w) (hlen : bs.length + 1 ≤ 1000000) (hG : G ≤ w.heap.size) :
    Calls Tryd.prog 51 #[.pointer (some ⟨b, 0, none⟩), .int .u8 c] w fun e w' => e = .returned .nilIface ∧ (IsB G b (bs ++ [.int .u8 c]) w' ∧ Kp G b w w') := by
  obtain ⟨i0, hi, hz0, hz1, hz2⟩ := info_parts byteInfo
  have HC := Lib.hid (ccheck_any G b bs w h)
  clear h
  go_enter Tryd.func51, Tryd.ntmps51
  go_wp2_with fail
  refine HC.out.mono ?_
  rintro e w1 ⟨rfl, ⟨v, hbk, hown, hne⟩, hk1⟩
  have c0 : w1.cell? ⟨b, 0, none⟩ = some (.pointer (some ⟨b, 0, none⟩)) := by rw [Lib.cell_of_heap hbk]; rfl
  have c1 : w1.cell? ⟨b, 1, none⟩ = some v := by rw [Lib.cell_of_heap hbk]; rfl
  have hs1 := hk1.size
  go_wp2_with (at_builtin; refine wpList_append_own _ rfl _ _ 56 rfl G 5 i0 (.int .u8 0) 1 1 Tryd.underlying56 hi hz0 hz1 hz2 rfl (by decide) _ _ _ rfl (hown.alloc _) ⟨w1.heap.size, 0, none⟩ 1 1 [.int .u8 c] rfl rfl ?c1 ?c2 ?c3 ?c4 ?c5 ?_)
  case c1 =>
    intro j u hj
    match j, hj with
    | 0, hj => simp at hj; subst hj; simp [Addr.add]
  case c2 => intro u hu; simp at hu; subst hu; rfl
  case c3 => unfold maxLen; omega
  case c4 => omega
  case c5 => simp; omega
  intro v' w2 hown' hgrow _
  have hlt := lt_of_some hbk
  have hb2 : w2.heap[b]? = some (.cells #[.pointer (some ⟨b, 0, none⟩), v] 58 (0, 0)) := by
    rw [hgrow.block b (by simp; omega) (fun e => hne e.symm), Lib.alloc_old w1 _ b hlt]
    exact hbk
  have d0 : w2.cell? ⟨b, 0, none⟩ = some (.pointer (some ⟨b, 0, none⟩)) := by rw [Lib.cell_of_heap hb2]; rfl
  have d1 : w2.cell? ⟨b, 1, none⟩ = some v := by rw [Lib.cell_of_heap hb2]; rfl
  have f1 : w2.frozen? ⟨b, 1, none⟩ = false := Lib.frozen_of_heap hb2 1
  obtain ⟨ao, n', cap, rfl⟩ : ∃ ao n' cap, v' = .slice ao n' cap := by
    rcases hown'.2 with ⟨hv, _⟩ | ⟨g, cap, cur, hv, _⟩
    · exact ⟨_, _, _, hv⟩
    · exact ⟨_, _, _, hv⟩
  have hput := Lib.hid (put_b (G := G) hb2 (bs := bs ++ [.int .u8 c]) (by simpa using hown'))
  have hkk : Kp G b w w2 := (hk1.below ((Below.refl _ _).alloc (Nat.le_refl _) (.cells #[.int .u8 c] 5)) (by omega)).trans ⟨hgrow.os, hgrow.tape, hgrow.output, hgrow.size, fun i hi hb => hgrow.block i (by simp; omega) fun e => by have := own_ge hown e.symm; omega⟩
  have hbel := Lib.hid (hkk.set 1 (.slice ao n' cap))
  clear hown' hgrow hown hne hk1 hkk
  go_wp2_with fail
  go_ret
  exact ⟨rfl, .inr hput.out, hbel.out⟩
end Go.Proofs.YtmhhjchnjaefhaaDoor

