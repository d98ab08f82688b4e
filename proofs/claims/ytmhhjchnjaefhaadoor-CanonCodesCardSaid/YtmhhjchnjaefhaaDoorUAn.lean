/- The example of the chapter, walked: awake of law07. Diagrams compared: Ints and Equal of the reference, diagram.Equal, slices.EqualFunc, same of law07; the number of components. canon.Code: the code of a diagram. -/
import Derived.WalkKit
import Derived.WalkSpells
import Derived.WalkLawsBesides
import Derived.Deep.AppendSrc
import Derived.Deep.LoopGhost
import Derived.Deep.QuietTactic
import Derived.Deep.RegionWith
import Derived.Deep.DeepMust
import Derived.Deep.DeepFit
import Derived.BigQuiet
import Derived.Lib.Hide
import Derived.Outline
import Derived.Test.YtmhhjchnjaefhaaDoorProg
import Derived.Deep.Matrix
import Derived.Deep.DeepCutAuto
import Derived.Deep.RegionLaw
import Derived.Deep.RegionHeld3
import Derived.Shelf.Small.Bits
import Derived.Shelf.Small.Wraps
import Derived.Shelf.Strconv.Itoa0
import Derived.Shelf.Sort.Plain
import Derived.Shelf.Slices.Turned
import Derived.Shelf.Slices.Equal
import Derived.Ground.Names2Prog
import Derived.Shelf.Slices.Clone
import Derived.Shelf.Slices.CompactI
import Derived.Shelf.Slices.SearchI
import Derived.Shelf.Slices.Cells
import Derived.Shelf.Slices.In.SortNone
import Derived.Shelf.Slices.Empties2
import Derived.Ground.SlgnProg
import Derived.Shelf.SlicesE.Clone
import Derived.Sort.OwnSortedInts
import Derived.Lib.AppendZeros
import Derived.Deep.RegionHeld
import Derived.Shelf.Strings.Builder1
import Derived.Shelf.Strings.BuilderF
import Derived.Shelf.Strings.BuilderK
import Derived.Shelf.Strconv.Itoa1
import Derived.Shelf.LaysM
import Derived.Shelf.Strconv.Itoa2
import Derived.Shelf.Strconv.Itoa3
import Derived.Lib.SliceRun
import Derived.Test.YtmhhjchnjaefhaaDoorUAa
import Derived.Test.YtmhhjchnjaefhaaDoorUAc
import Derived.Test.YtmhhjchnjaefhaaDoorUAd
import Derived.Test.YtmhhjchnjaefhaaDoorUAe
import Derived.Test.YtmhhjchnjaefhaaDoorUAf
import Derived.Test.YtmhhjchnjaefhaaDoorUAg
import Derived.Test.YtmhhjchnjaefhaaDoorUAh
import Derived.Test.YtmhhjchnjaefhaaDoorUAi
import Derived.Test.YtmhhjchnjaefhaaDoorUAj
import Derived.Test.YtmhhjchnjaefhaaDoorUAm
import Derived.Test.YtmhhjchnjaefhaaDoorUAb
import Derived.Test.YtmhhjchnjaefhaaDoorUAk
import Derived.Test.YtmhhjchnjaefhaaDoorUAl
namespace Go.Proofs.YtmhhjchnjaefhaaDoor
open Go Go.RowKit
theorem sEq_any (xs ys : List Int) (a b : Option Addr) (c d : Nat) (w : World) (hx : xs.length ≤ 1000000000) (hA : IntsAt w a xs) (hB : IntsAt w b ys) :
    Calls Tryd.prog 43 #[.slice a xs.length c, .slice b ys.length d] w fun e w' => e = .returned (.bool (decide (xs = ys))) ∧ Below w.heap.size w w' := by
  by_cases hl : xs.length = ys.length
  · rcases Nat.eq_zero_or_pos xs.length with h0 | h0
    · rw [h0]
      refine (Tryd.slices_Equal_int_empty a b c ys.length d w (by omega)).mono ?_
      rintro e w' ⟨rfl, rfl⟩
      obtain rfl := List.eq_nil_of_length_eq_zero h0
      obtain rfl := List.eq_nil_of_length_eq_zero (show ys.length = 0 by omega)
      exact ⟨rfl, Below.refl _ _⟩
    · obtain ⟨b1, o1, rfl, _, h1⟩ := hA.open h0
      obtain ⟨b2, o2, rfl, _, h2⟩ := hB.open (by omega)
      refine (Tryd.slices_Equal_int b1 o1 xs.length c b2 o2 ys.length d xs ys w (Nat.le_refl _) (Nat.le_refl _) (by omega) (by omega) h1 h2).mono ?_
      rintro e w' ⟨rfl, q, rfl⟩
      rw [List.take_of_length_le (Nat.le_refl _), List.take_of_length_le (Nat.le_refl _)]
      refine ⟨ret_bool ?_, below_drewNN (Below.refl _ _) q⟩
      by_cases e : xs = ys <;> simp [e]
  · refine (Tryd.slices_Equal_int_lens a b xs.length c ys.length d w hl).mono ?_
    rintro e w' ⟨rfl, rfl⟩
    exact ⟨ret_bool (decide_eq_false fun e => hl (by rw [e])).symm, Below.refl _ _⟩
end Go.Proofs.YtmhhjchnjaefhaaDoor


namespace Go.Proofs.YtmhhjchnjaefhaaDoor
open Go Go.RowKit
theorem list_ext_nth {xs ys : List Int} (hl : xs.length = ys.length) (h : ∀ i, i < xs.length → nth xs i = nth ys i) : xs = ys := by
  refine List.ext_getElem hl fun i h1 h2 => ?_
  have := h i h1
  simpa [nth, h1, h2] using this
set_option maxRecDepth 100000 in
set_option maxHeartbeats 2000000 in
theorem ints_any (xs ys : List Int) (a b : Option Addr) (c d : Nat) (w : World) (hx : xs.length ≤ 1000000000) (hA : IntsAt w a xs) (hB : IntsAt w b ys) :
    Calls Tryd.prog 30 #[.slice a xs.length c, .slice b ys.length d] w fun e w' => e = .returned (.bool (decide (xs = ys))) ∧ ∃ m, w' = w.drewN m := by
  by_cases hl : xs.length = ys.length
  · have d1 : ((xs.length : Int) != (ys.length : Int)) = false := by rw [hl]; simp
    have hl1 : xs.length ≤ ys.length := by omega
    have HA := Lib.hid hA
    have HB := Lib.hid hB
    have Hl := Lib.hid hl
    clear hl hA hB
    go_enter Tryd.func30, Tryd.ntmps30
    go_wp2_with fail
    go_loopg [5] xs.length (fun g i wr => ∃ k q : Nat, k ≤ xs.length ∧ g = xs.length - k ∧ i = .int .i64 k ∧ wr = w.drewN q ∧ ∀ j, j < k → nth xs j = nth ys j)
    case atStart => exact ⟨0, 0, Nat.zero_le _, rfl, rfl, rfl, fun j hj => by omega⟩
    case round =>
      obtain ⟨k, q, hk, rfl, rfl, rfl, he⟩ := hrel
      have He := Lib.hid he
      clear he
      by_cases hlt : k < xs.length
      · obtain ⟨ba, oa, rfl, _, hca⟩ := HA.out.open (by omega)
        obtain ⟨bb, ob, rfl, _, hcb⟩ := HB.out.open (by have := Hl.out; omega)
        have h1 := hca k hlt
        have h2 := hcb k (by have := Hl.out; omega)
        clear hca hcb
        by_cases heq : nth xs k = nth ys k
        · have t1 : (nth xs k != nth ys k) = false := by rw [heq]; simp
          have Heq := Lib.hid heq
          clear heq
          go_wp2_with fail
          go_quiet (fail)
          go_wp2_with fail
          go_roundg (xs.length - (k + 1))
          case measure => omega
          case rel =>
            refine ⟨k + 1, q + nq, by omega, rfl, by go_num, rfl, fun j hj => ?_⟩
            rcases Nat.lt_or_ge j k with h | h
            · exact He.out j h
            · obtain rfl : j = k := by omega
              exact Heq.out
        · have t1 : (nth xs k != nth ys k) = true := by simpa using heq
          have Hf : Hid (decide (xs = ys) = false) := Lib.hid (decide_eq_false fun e => heq (by rw [e]))
          clear heq
          go_wp2_with fail
          go_quiet (fail)
          go_wp2_with fail
          go_ret
          rw [Hf.out]
          exact ⟨rfl, q + nq, World.drewN_drewN _ _ _⟩
      · obtain rfl : k = xs.length := by omega
        have Hf : Hid (decide (xs = ys) = true) := Lib.hid (decide_eq_true (list_ext_nth Hl.out He.out))
        go_wp2_with fail
        go_ret
        rw [Hf.out]
        exact ⟨rfl, _, rfl⟩
  · have d1 : ((xs.length : Int) != (ys.length : Int)) = true := by rw [bne_iff_ne]; omega
    have hf : decide (xs = ys) = false := decide_eq_false fun e => hl (by rw [e])
    rw [hf]
    clear hl hf hA hB
    go_enter Tryd.func30, Tryd.ntmps30
    go_wp2_with fail
    go_ret
    exact ⟨rfl, 0, rfl⟩
/-- Are two diagrams equal? -/
def eqD (S M : List Int) (L : Int) (T N : List Int) (K : Int) : Bool := decide (S = T ∧ M = N ∧ L = K)
set_option maxRecDepth 100000 in
set_option maxHeartbeats 4000000 in
theorem equalR_any (S M T N : List Int) (L K : Int) (aS aM bS bM : Option Addr) (cS cM dS dM : Nat) (w : World) (hSl : S.length ≤ 1000000000) (hMl : M.length ≤ 1000000000) (hS : IntsAt w aS S) (hM : IntsAt w aM M) (hT : IntsAt w bS T) (hN : IntsAt w bM N) :
    Calls Tryd.prog 27 #[.agg #[.slice aS S.length cS, .slice aM M.length cM, .int .i64 L], .agg #[.slice bS T.length dS, .slice bM N.length dM, .int .i64 K]] w fun e w' => e = .returned (.bool (eqD S M L T N K)) ∧ Below w.heap.size w w' := by
  obtain ⟨W, hW⟩ : ∃ W, W = ((w.alloc (.cells #[.slice aS S.length cS, .slice aM M.length cM, .int .i64 L] 24)).alloc (.cells #[.slice bS T.length dS, .slice bM N.length dM, .int .i64 K] 24)) := ⟨_, rfl⟩
  have h0 : HH w W [(w.heap.size, rowO 24 [.slice aS S.length cS, .slice aM M.length cM, .int .i64 L]), (w.heap.size + 1, rowO 24 [.slice bS T.length dS, .slice bM N.length dM, .int .i64 K])] [] := by rw [hW]; exact (((HH.start w).alloc #[.slice aS S.length cS, .slice aM M.length cM, .int .i64 L] 24 rfl rfl).alloc #[.slice bS T.length dS, .slice bM N.length dM, .int .i64 K] 24 (by simp) rfl)
  have H0 := Lib.hid h0
  have HI1 : Hid (∀ W', Below w.heap.size w W' → Calls Tryd.prog 30 #[.slice aS S.length cS, .slice bS T.length dS] W' fun e w' => e = .returned (.bool (decide (S = T))) ∧ Below W'.heap.size W' w') := Lib.hid fun W' h => (ints_any S T aS bS cS dS W' hSl (hS.later h) (hT.later h)).mono fun e w' ⟨he, m, hm⟩ => ⟨he, hm ▸ below_drewNN (Below.refl _ _) m⟩
  have HI2 : Hid (∀ W', Below w.heap.size w W' → Calls Tryd.prog 30 #[.slice aM M.length cM, .slice bM N.length dM] W' fun e w' => e = .returned (.bool (decide (M = N))) ∧ Below W'.heap.size W' w') := Lib.hid fun W' h => (ints_any M N aM bM cM dM W' hMl (hM.later h) (hN.later h)).mono fun e w' ⟨he, m, hm⟩ => ⟨he, hm ▸ below_drewNN (Below.refl _ _) m⟩
  obtain ⟨r, hr⟩ : ∃ r, r = eqD S M L T N K := ⟨_, rfl⟩
  rw [← hr]
  have Hr := Lib.hid hr
  clear h0 hS hM hT hN hSl hMl hr
  by_cases e1 : S = T
  · have g1 := decide_eq_true e1
    rw [g1] at HI1
    by_cases e2 : M = N
    · have g2 := decide_eq_true e2
      rw [g2] at HI2
      by_cases e3 : L = K
      · obtain rfl : r = true := by rw [Hr.out]; exact decide_eq_true ⟨e1, e2, e3⟩
        have t1 : (L == K) = true := by rw [e3]; exact beq_self_eq_true _
        clear e1 g1 e2 g2 e3 Hr
        go_enter Tryd.func27, Tryd.ntmps27
        go_wp2_with fail
        rw [← hW]
        clear hW
        refine (HI1.out W H0.out.below).mono ?_
        rintro e w1 ⟨rfl, hb1⟩
        have H1 := Lib.hid (H0.out.call hb1)
        clear hb1 H0
        have hc0_0 := H1.out.cell (k := 0) (i := 0) rfl rfl
        have hc0_1 := H1.out.cell (k := 0) (i := 1) rfl rfl
        have hc0_2 := H1.out.cell (k := 0) (i := 2) rfl rfl
        have hc1_0 := H1.out.cell (k := 1) (i := 0) rfl rfl
        have hc1_1 := H1.out.cell (k := 1) (i := 1) rfl rfl
        have hc1_2 := H1.out.cell (k := 1) (i := 2) rfl rfl
        go_wp2_with fail
        refine (HI2.out w1 H1.out.below).mono ?_
        rintro e w2 ⟨rfl, hb2⟩
        have H2 := Lib.hid (H1.out.call hb2)
        clear hb2 H1
        clear hc0_0 hc0_1 hc0_2 hc1_0 hc1_1 hc1_2
        have hc0_0 := H2.out.cell (k := 0) (i := 0) rfl rfl
        have hc0_1 := H2.out.cell (k := 0) (i := 1) rfl rfl
        have hc0_2 := H2.out.cell (k := 0) (i := 2) rfl rfl
        have hc1_0 := H2.out.cell (k := 1) (i := 0) rfl rfl
        have hc1_1 := H2.out.cell (k := 1) (i := 1) rfl rfl
        have hc1_2 := H2.out.cell (k := 1) (i := 2) rfl rfl
        go_wp2_with fail
        go_ret
        exact ⟨rfl, H2.out.below⟩
      · obtain rfl : r = false := by rw [Hr.out]; exact decide_eq_false (fun e => e3 e.2.2)
        have t1 : (L == K) = false := by rw [beq_eq_false_iff_ne]; exact e3
        clear e1 g1 e2 g2 e3 Hr
        go_enter Tryd.func27, Tryd.ntmps27
        go_wp2_with fail
        rw [← hW]
        clear hW
        refine (HI1.out W H0.out.below).mono ?_
        rintro e w1 ⟨rfl, hb1⟩
        have H1 := Lib.hid (H0.out.call hb1)
        clear hb1 H0
        have hc0_0 := H1.out.cell (k := 0) (i := 0) rfl rfl
        have hc0_1 := H1.out.cell (k := 0) (i := 1) rfl rfl
        have hc0_2 := H1.out.cell (k := 0) (i := 2) rfl rfl
        have hc1_0 := H1.out.cell (k := 1) (i := 0) rfl rfl
        have hc1_1 := H1.out.cell (k := 1) (i := 1) rfl rfl
        have hc1_2 := H1.out.cell (k := 1) (i := 2) rfl rfl
        go_wp2_with fail
        refine (HI2.out w1 H1.out.below).mono ?_
        rintro e w2 ⟨rfl, hb2⟩
        have H2 := Lib.hid (H1.out.call hb2)
        clear hb2 H1
        clear hc0_0 hc0_1 hc0_2 hc1_0 hc1_1 hc1_2
        have hc0_0 := H2.out.cell (k := 0) (i := 0) rfl rfl
        have hc0_1 := H2.out.cell (k := 0) (i := 1) rfl rfl
        have hc0_2 := H2.out.cell (k := 0) (i := 2) rfl rfl
        have hc1_0 := H2.out.cell (k := 1) (i := 0) rfl rfl
        have hc1_1 := H2.out.cell (k := 1) (i := 1) rfl rfl
        have hc1_2 := H2.out.cell (k := 1) (i := 2) rfl rfl
        go_wp2_with fail
        go_ret
        exact ⟨rfl, H2.out.below⟩
    · have g2 := decide_eq_false e2
      rw [g2] at HI2
      obtain rfl : r = false := by rw [Hr.out]; exact decide_eq_false (fun e => e2 e.2.1)
      clear e1 g1 e2 g2 Hr
      go_enter Tryd.func27, Tryd.ntmps27
      go_wp2_with fail
      rw [← hW]
      clear hW
      refine (HI1.out W H0.out.below).mono ?_
      rintro e w1 ⟨rfl, hb1⟩
      have H1 := Lib.hid (H0.out.call hb1)
      clear hb1 H0
      have hc0_0 := H1.out.cell (k := 0) (i := 0) rfl rfl
      have hc0_1 := H1.out.cell (k := 0) (i := 1) rfl rfl
      have hc0_2 := H1.out.cell (k := 0) (i := 2) rfl rfl
      have hc1_0 := H1.out.cell (k := 1) (i := 0) rfl rfl
      have hc1_1 := H1.out.cell (k := 1) (i := 1) rfl rfl
      have hc1_2 := H1.out.cell (k := 1) (i := 2) rfl rfl
      go_wp2_with fail
      refine (HI2.out w1 H1.out.below).mono ?_
      rintro e w2 ⟨rfl, hb2⟩
      have H2 := Lib.hid (H1.out.call hb2)
      clear hb2 H1
      clear hc0_0 hc0_1 hc0_2 hc1_0 hc1_1 hc1_2
      have hc0_0 := H2.out.cell (k := 0) (i := 0) rfl rfl
      have hc0_1 := H2.out.cell (k := 0) (i := 1) rfl rfl
      have hc0_2 := H2.out.cell (k := 0) (i := 2) rfl rfl
      have hc1_0 := H2.out.cell (k := 1) (i := 0) rfl rfl
      have hc1_1 := H2.out.cell (k := 1) (i := 1) rfl rfl
      have hc1_2 := H2.out.cell (k := 1) (i := 2) rfl rfl
      go_wp2_with fail
      go_ret
      exact ⟨rfl, H2.out.below⟩
  · have g1 := decide_eq_false e1
    rw [g1] at HI1
    obtain rfl : r = false := by rw [Hr.out]; exact decide_eq_false (fun e => e1 e.1)
    clear e1 g1 Hr
    go_enter Tryd.func27, Tryd.ntmps27
    go_wp2_with fail
    rw [← hW]
    clear hW
    refine (HI1.out W H0.out.below).mono ?_
    rintro e w1 ⟨rfl, hb1⟩
    have H1 := Lib.hid (H0.out.call hb1)
    clear hb1 H0
    have hc0_0 := H1.out.cell (k := 0) (i := 0) rfl rfl
    have hc0_1 := H1.out.cell (k := 0) (i := 1) rfl rfl
    have hc0_2 := H1.out.cell (k := 0) (i := 2) rfl rfl
    have hc1_0 := H1.out.cell (k := 1) (i := 0) rfl rfl
    have hc1_1 := H1.out.cell (k := 1) (i := 1) rfl rfl
    have hc1_2 := H1.out.cell (k := 1) (i := 2) rfl rfl
    go_wp2_with fail
    go_ret
    exact ⟨rfl, H1.out.below⟩
/-- A list of diagrams that is read. -/
def RdD (w : World) (A : Option Addr) (ds : List Dgm) : Prop := ∀ (i : Nat) (d : Dgm), ds[i]? = some d → ∃ b o a c e f, A = some ⟨b, o, none⟩ ∧ w.cell? ⟨b, o + i * 3, none⟩ = some (.slice a d.1.length c) ∧ w.cell? ⟨b, o + i * 3 + 1, none⟩ = some (.slice e d.2.1.length f) ∧ w.cell? ⟨b, o + i * 3 + 2, none⟩ = some (.int .i64 d.2.2) ∧ IntsAt w a d.1 ∧ IntsAt w e d.2.1
theorem DLO.rd {w : World} {B B0 : Nat} {A : Option Addr} {C : Nat} {ds : List Dgm} (h : DLO w B B0 A C ds) : RdD w A ds := fun i d hd => by
  have hi : i < ds.length := (List.getElem?_eq_some_iff.1 hd).1
  obtain ⟨b, o, rfl, hc⟩ := h.open (by omega)
  obtain ⟨a, c, e, f, h1, h2, h3, h4, h5⟩ := hc i d hd
  exact ⟨b, o, a, c, e, f, rfl, h1, h2, h3, h4.at, h5.at⟩
theorem RdD.later {w w' : World} {A : Option Addr} {ds : List Dgm} (h : RdD w A ds) (hb : Below w.heap.size w w') : RdD w' A ds := fun i d hd => by
  obtain ⟨b, o, a, c, e, f, rfl, h1, h2, h3, h4, h5⟩ := h i d hd
  exact ⟨b, o, a, c, e, f, rfl, (hb.cell (p := ⟨b, o + i * 3, none⟩) (World.block_lt_of_cell? _ _ h1)).trans h1, (hb.cell (p := ⟨b, o + i * 3 + 1, none⟩) (World.block_lt_of_cell? _ _ h2)).trans h2, (hb.cell (p := ⟨b, o + i * 3 + 2, none⟩) (World.block_lt_of_cell? _ _ h3)).trans h3, h4.later hb, h5.later hb⟩
theorem eqD_same' (S M : List Int) (L : Int) : eqD S M L S M L = true := by unfold eqD; simp
end Go.Proofs.YtmhhjchnjaefhaaDoor


namespace Go.Proofs.YtmhhjchnjaefhaaDoor
open Go Go.RowKit
theorem CellsOf.rd {w : World} {B B0 : Nat} {E : TypeId} {A : Option Addr} {c : Nat} {vs : List Value} {ds : List Dgm} (h : CellsOf w B0 vs ds) (ho : Own w B E A c vs) : RdD w A ds := fun i d hd => by
  have hi : i < ds.length := (List.getElem?_eq_some_iff.1 hd).1
  have hl := h.1
  obtain ⟨b, o, rfl, _, _, hc, _⟩ := ho.open (by omega)
  obtain ⟨a, c, e, f, h1, h2, h3, h4, h5⟩ := h.2 i d hd
  exact ⟨b, o, a, c, e, f, rfl, hc _ _ h1, by rw [Nat.add_assoc]; exact hc _ _ h2, by rw [Nat.add_assoc]; exact hc _ _ h3, h4.at, h5.at⟩
set_option maxRecDepth 100000 in
set_option maxHeartbeats 1000000 in
theorem code_no (S M : List Int) (L : Int) (aS aM : Option Addr) (cS cM : Nat) (w : World) (hSl : S.length ≤ 1000000000) (hMl : M.length ≤ 1000000000) (hv : vldB S M L = false) (hS : IntsAt w aS S) (hM : IntsAt w aM M) :
    Calls Tryd.prog 25 #[.agg #[.slice aS S.length cS, .slice aM M.length cM, .int .i64 L]] w fun e w' => e = .returned (.slice none 0 0) ∧ Below w.heap.size w w' := by
  have HV : Hid (∀ W', Below w.heap.size w W' → Calls Tryd.prog 18 #[.agg #[.slice aS S.length cS, .slice aM M.length cM, .int .i64 L]] W' fun e w' => e = .returned (.bool false) ∧ Below W'.heap.size W' w') := Lib.hid fun W' h => by
    have g := valid_any S M L aS aM cS cM W' (by omega) (by omega) (hS.later h) (hM.later h)
    rw [hv] at g; exact g
  have H0 := Lib.hid ((HH.start w).alloc #[.slice aS S.length cS, .slice aM M.length cM, .int .i64 L] 24 rfl rfl)
  clear hv hS hM
  generalize S.length = n at *
  generalize M.length = N at *
  go_enter Tryd.func25, Tryd.ntmps25
  have k00 := H0.out.cell (k := 0) (i := 0) rfl rfl
  have k01 := H0.out.cell (k := 0) (i := 1) rfl rfl
  have k02 := H0.out.cell (k := 0) (i := 2) rfl rfl
  go_wp2_with fail
  clear k00 k01 k02
  refine (HV.out _ H0.out.below).mono ?_
  rintro e w1 ⟨rfl, hb⟩
  have H1 := Lib.hid (H0.out.call hb)
  clear hb H0 
  go_wp2_with fail
  go_ret
  exact ⟨rfl, H1.out.below⟩
set_option maxRecDepth 100000 in
set_option maxHeartbeats 1000000 in
theorem code_yes (S M : List Int) (L : Int) (aS aM : Option Addr) (cS cM : Nat) (w : World) (hv : vldB S M L = true) (h20 : S.length ≤ 20) (hS : IntsAt w aS S) (hM : IntsAt w aM M) :
    Calls Tryd.prog 25 #[.agg #[.slice aS S.length cS, .slice aM M.length cM, .int .i64 L]] w fun e w' => ∃ a c, e = .returned (.slice a (codeOf S M L).length c) ∧ Own w' w.heap.size 3 a c (ints (codeOf S M L)) ∧ Below w.heap.size w w' := by
  have hs := vldB_shape hv
  have hMl := hs.len
  have HV : Hid (∀ W', Below w.heap.size w W' → Calls Tryd.prog 18 #[.agg #[.slice aS S.length cS, .slice aM M.length cM, .int .i64 L]] W' fun e w' => e = .returned (.bool true) ∧ Below W'.heap.size W' w') := Lib.hid fun W' h => by
    have g := valid_any S M L aS aM cS cM W' (by omega) (by omega) (hS.later h) (hM.later h)
    rw [hv] at g; exact g
  have HP : Hid (∀ W', Below w.heap.size w W' → Calls Tryd.prog 44 #[.agg #[.slice aS S.length cS, .slice aM M.length cM, .int .i64 L]] W' fun e w' => ∃ A C ys, e = .returned (.slice A ys.length C) ∧ Hid (codeY L ys ys.length = codeOf S M L ∧ ys.length ≤ 20 ∧ ∀ i, i < ys.length → (ys.getD i ([], [], 0)).1.length ≤ 100 ∧ (ys.getD i ([], [], 0)).2.1.length ≤ 20 ∧ (codeY L ys i).length ≤ 2100) ∧ RdD w' A ys ∧ Below W'.heap.size W' w') := Lib.hid fun W' h => by
    refine (cpieces_any S M L aS aM cS cM W' hv h20 (hS.later h) (hM.later h)).mono ?_
    rintro e w' ⟨A, C, ys, vs, rfl, hsr, ho, hc, hb⟩
    have hfew : ∀ p, p ∈ ys → p.1.length ≤ 100 ∧ p.2.1.length ≤ 20 := fun p hp => by
      have := piece_few (fun x hx => hs.mt_lt hx) hsr hp
      omega
    have hyl : ys.length ≤ 20 := by
      rw [hsr.perm.length_eq, List.length_map]; exact Nat.le_trans (grp_len M S.length) h20
    refine ⟨A, C, ys, rfl, Lib.hid ⟨codeY_all hsr, hyl, fun i hi => ?_⟩, hc.rd ho, hb⟩
    have hm : ys.getD i ([], [], 0) ∈ ys := by rw [List.getD_eq_getElem?_getD, List.getElem?_eq_getElem hi]; exact List.getElem_mem _
    have h3 := codeY_few L (fun p hp => (hfew p hp).1) i (Nat.le_of_lt hi)
    have h4 := Nat.mul_le_mul (show i ≤ 20 by omega) (Nat.le_refl (100 + 1))
    exact ⟨(hfew _ hm).1, (hfew _ hm).2, by omega⟩
  obtain ⟨i0, hi0, hz0, hz1, hz2⟩ := info_parts Tryd.info3
  have H0 := Lib.hid ((HH.start w).alloc #[.slice aS S.length cS, .slice aM M.length cM, .int .i64 L] 24 rfl rfl)
  clear hv hS hM hs hMl h20
  generalize codeOf S M L = CO at *
  generalize S.length = n at *
  generalize M.length = N at *
  go_enter Tryd.func25, Tryd.ntmps25
  have k00 := H0.out.cell (k := 0) (i := 0) rfl rfl
  have k01 := H0.out.cell (k := 0) (i := 1) rfl rfl
  have k02 := H0.out.cell (k := 0) (i := 2) rfl rfl
  go_wp2_with fail
  clear k00 k01 k02
  refine (HV.out _ H0.out.below).mono ?_
  rintro e w1 ⟨rfl, hb⟩
  have H1 := Lib.hid (H0.out.call hb)
  clear hb H0 HV
  have k00 := H1.out.cell (k := 0) (i := 0) rfl rfl
  have k01 := H1.out.cell (k := 0) (i := 1) rfl rfl
  have k02 := H1.out.cell (k := 0) (i := 2) rfl rfl
  go_wp2_with fail
  clear k00 k01 k02
  refine (HP.out _ H1.out.below).mono ?_
  rintro e w2 ⟨A, C, ys, rfl, HY, hrd, hb⟩
  have H2 := Lib.hid (H1.out.call hb)
  have HR := Lib.hid hrd
  clear hrd hb H1 HP
  have hyl : ys.length ≤ 20 := HY.out.2.1
  have HBw := Lib.hid H2.out.below
  have k2 := H2.out.cell (k := 0) (i := 2) rfl rfl
  have J0 : Hid (HH w2 (w2.alloc (.cells #[.int .i64 L, .int .i64 (ys.length : Int)] 3)) [] [⟨some ⟨w2.heap.size, 0, none⟩, 2, 3, ints (codeY L ys 0)⟩]) := Lib.hid ((HH.start w2).addSl ((Below.refl _ _).alloc (Nat.le_refl _) _) (Own.made #[.int .i64 L, .int .i64 (ys.length : Int)] (Nat.le_refl _)))
  go_wp2_with fail
  clear k2 H2
  go_loopg [19, 4] ys.length (fun g v s4 wr => ∃ (i : Nat) (A2 : Option Addr) (d : Nat), i ≤ ys.length ∧ g = ys.length - i ∧ v = .int .i64 i ∧ s4 = .slice A2 (codeY L ys i).length d ∧ HH w2 wr [] [⟨A2, d, 3, ints (codeY L ys i)⟩])
  case atStart => exact ⟨0, _, 2, Nat.zero_le _, rfl, rfl, rfl, J0.out⟩
  case round =>
    obtain ⟨i, A2, d, hi, rfl, rfl, rfl, hh⟩ := hrel
    have Jr := Lib.hid hh
    clear hh J0
    by_cases hil : i < ys.length
    · obtain ⟨b, o, a, c, e, f, rfl, g1, g2, g3, h4, h5⟩ := HR.out i _ (getD_some (d := ([], [], 0)) hil)
      have h1 := (Jr.out.below.cell (p := ⟨b, o + i * 3, none⟩) (World.block_lt_of_cell? _ _ g1)).trans g1
      have h2 := (Jr.out.below.cell (p := ⟨b, o + i * 3 + 1, none⟩) (World.block_lt_of_cell? _ _ g2)).trans g2
      have h3 := (Jr.out.below.cell (p := ⟨b, o + i * 3 + 2, none⟩) (World.block_lt_of_cell? _ _ g3)).trans g3
      clear g1 g2 g3
      have HC1 := Lib.hid (codeY_succ L hil)
      obtain ⟨hb1, hb2, hb3⟩ := HY.out.2.2 i hil
      generalize ys.getD i ([], [], 0) = dd at *
      obtain ⟨Xd, Yd, r3⟩ := dd
      dsimp only at *
      have HI := Lib.hid h4
      clear h4 h5
      have hX : Hid ((ints Xd).length = Xd.length * 1) := Lib.hid (by rw [ints_length, Nat.mul_one])
      have Hcy : Hid ((ints (codeY L ys i)).length = (codeY L ys i).length) := Lib.hid (by rw [ints_length])
      generalize hl2 : Yd.length = l2 at *
      have HC2 : Hid (codeY L ys (i + 1) = codeY L ys i ++ [(l2 : Int)] ++ Xd) := HC1
      clear hl2 HC1
      have Hl2 : Hid ((codeY L ys (i + 1)).length = (codeY L ys i).length + 1 + Xd.length) := Lib.hid (by rw [HC2.out, List.length_append, List.length_append]; rfl)
      generalize codeY L ys i = cy at *
      generalize cy.length = ly at *
      generalize Xd.length = l1 at *
      have K0 := Lib.hid (Jr.out.alloc #[.slice a l1 c, .slice e l2 f, .int .i64 r3] 51 (b := wr.heap.size) rfl rfl)
      go_upto_region 8 with fail
      clear h1 h2 h3 Jr
      generalize wr.alloc (.cells #[.slice a l1 c, .slice e l2 f, .int .i64 r3] 51) = v1 at *
      generalize wr.heap.size = q at *
      have y1 := K0.out.cell (k := 0) (i := 1) rfl rfl
      have Ja := Lib.hid (K0.out.call ((Below.refl _ _).alloc (Nat.le_refl _) (.cells #[.int .i64 (l2 : Int)] 3)))
      have Hc0 : Hid ((v1.alloc (.cells #[.int .i64 (l2 : Int)] 3)).cell? ⟨v1.heap.size, 0, none⟩ = some (.int .i64 (l2 : Int))) := Lib.hid ((Row.new v1 #[.int .i64 (l2 : Int)] 3).cell 0)
      have Hl1 := Lib.hid Ja.out.below.size
      go_upto_region 9 with (with_reducible refine wpList_append_one rfl (.tmp 23) (.tmp 27) 22 rfl w2.heap.size 3 i0 (.int .i64 0) 8 Tryd.underlying22 hi0 hz0 hz1 hz2 rfl A2 ly d (ints cy) rfl Hcy.out (Ja.out.sl (k := 0) rfl) _ 1 (.int .i64 (l2 : Int)) rfl Hc0.out rfl (by omega) (by omega) Hl1.out ?_; intro A3 e3 w7 hO2 hT2 hA2; have HO3 := Lib.hid hO2; have HT3 := Lib.hid hT2; have HA3 := Lib.hid hA2; clear hO2 hT2 hA2)
      have J8 : Hid (HH w2 w7 [(q, rowO 51 [.slice a l1 c, .slice e l2 f, .int .i64 r3])] [⟨A3, e3, 3, ints (cy ++ [(l2 : Int)])⟩]) := Lib.hid (by
        have h := Ja.out.grow (k := 0) rfl HO3.out HT3.out HA3.out
        rw [← ints_snoc]; exact h)
      clear HO3 HT3 HA3 Ja K0 Hc0 Hl1 y1
      have y0 := J8.out.cell (k := 0) (i := 0) rfl rfl
      have Hus : Hid (VAt w7 a (ints Xd)) := Lib.hid (HI.out.later J8.out.below)
      have Hu1 : Hid (∀ u ∈ ints Xd, u.oneCell' = true) := Lib.hid (by
        intro u hu
        obtain ⟨x, _, rfl⟩ := List.mem_map.1 hu
        rfl)
      have Hl1 := Lib.hid J8.out.below.size
      have HO1 : Hid (Own w7 w2.heap.size 3 A3 (e3 * 1) (ints (cy ++ [(l2 : Int)]))) := Lib.hid (by rw [Nat.mul_one]; exact J8.out.sl (k := 0) rfl)
      have Hvl : Hid ((ints (cy ++ [(l2 : Int)])).length = (ly + 1) * 1) := Lib.hid (by rw [ints_length, List.length_append, Nat.mul_one, ← Hcy.out, ints_length]; rfl)
      have hdc : ly + 1 ≤ e3 := by have := HO1.out.size; have := Hvl.out; omega
      have Hzc : Hid ((Value.int .i64 0).cells.size = 1) := Lib.hid rfl
      go_wp2_with (with_reducible refine wpList_append_wide rfl (.tmp 29) (.tmp 31) 22 22 rfl w2.heap.size 3 i0 _ 8 1 Tryd.underlying22 Tryd.underlying22 hi0 hz0 hz1 (by decide) hz2 Hzc.out A3 (ly + 1) e3 (ints (cy ++ [(l2 : Int)])) rfl Hvl.out hdc HO1.out a l1 c (ints Xd) rfl hX.out Hus.out Hu1.out (by omega) (by omega) Hl1.out ?_; intro A7 e7 w8 hle hO7 hT7 hA7; have HO7 := Lib.hid hO7; have HT7 := Lib.hid hT7; have HA7 := Lib.hid hA7; clear hO7 hT7 hA7)
      have J9 : Hid (HH w2 w8 [] [⟨A7, e7, 3, ints (codeY L ys (i + 1))⟩]) := Lib.hid (by
        have ho := HO7.out
        rw [Nat.mul_one] at ho
        have h := J8.out.grow (k := 0) rfl ho HT7.out HA7.out
        have e : ints (cy ++ [(l2 : Int)]) ++ ints Xd = ints (codeY L ys (i + 1)) := by rw [HC2.out]; simp only [ints, List.map_append]
        rw [← e]
        exact h.forgetK (List.nil_sublist _))
      go_roundg (ys.length - (i + 1))
      case measure => omega
      case rel => exact ⟨i + 1, A7, e7, by omega, rfl, by go_num, by rw [Hl2.out], J9.out⟩
    · obtain rfl : i = ys.length := by omega
      have HE : Hid (codeY L ys ys.length = CO) := Lib.hid HY.out.1
      rw [HE.out] at Jr
      rw [HE.out]
      clear HE
      go_wp2_with fail
      go_ret
      exact ⟨A2, d, rfl, (Jr.out.sl (k := 0) rfl).mono HBw.out.size, HBw.out.trans (Jr.out.below.mono HBw.out.size)⟩
end Go.Proofs.YtmhhjchnjaefhaaDoor


