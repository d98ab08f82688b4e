/- connect.prime: the prime factors. connect.Factors: the prime factors of all parts. -/
import Derived.Deep.RegionHeld3
import Derived.WalkKit
import Derived.WalkSpells
import Derived.WalkLawsBesides
import Derived.Deep.AppendSrc
import Derived.Deep.LoopGhost
import Derived.Deep.QuietTactic
import Derived.Deep.RegionWith
import Derived.Deep.DeepMust
import Derived.Deep.DeepFit
import Derived.BigQuiet
import Derived.Lib.Hide
import Derived.Outline
import Derived.Test.YtmjoijfafachhaaGreatDoorProg
import Derived.Deep.Matrix
import Derived.Deep.DeepCutAuto
import Derived.Deep.RegionLaw
import Derived.Shelf.Small.Bits
import Derived.Shelf.Small.Wraps
import Derived.Shelf.Strconv.Itoa0
import Derived.Shelf.Sort.Plain
import Derived.Shelf.Slices.Turned
import Derived.Shelf.Slices.Equal
import Derived.Ground.Names2Prog
import Derived.Shelf.Slices.Clone
import Derived.Shelf.Slices.CompactI
import Derived.Shelf.Slices.SearchI
import Derived.Shelf.Slices.Cells
import Derived.Shelf.Slices.In.SortNone
import Derived.Shelf.Slices.Empties2
import Derived.Ground.SlgnProg
import Derived.Shelf.SlicesE.Clone
import Derived.Lib.AppendZeros
import Derived.Deep.RegionHeld
import Derived.Shelf.Strings.Builder1
import Derived.Shelf.Strings.BuilderF
import Derived.Shelf.Strings.BuilderK
import Derived.Shelf.Strconv.Itoa1
import Derived.Shelf.LaysM
import Derived.Shelf.Strconv.Itoa2
import Derived.Shelf.Strconv.Itoa3
import Derived.Test.YtmjoijfafachhaaGreatDoorZuAa
import Derived.Test.YtmjoijfafachhaaGreatDoorZuAb
import Derived.Test.YtmjoijfafachhaaGreatDoorZuAc
import Derived.Test.YtmjoijfafachhaaGreatDoorZuAd
import Derived.Test.YtmjoijfafachhaaGreatDoorZuAe
import Derived.Test.YtmjoijfafachhaaGreatDoorZuAf
import Derived.Test.YtmjoijfafachhaaGreatDoorZuAg
import Derived.Test.YtmjoijfafachhaaGreatDoorZuAh
import Derived.Test.YtmjoijfafachhaaGreatDoorZuAj
import Derived.Test.YtmjoijfafachhaaGreatDoorZuAk
import Derived.Test.YtmjoijfafachhaaGreatDoorZuAl
import Derived.Test.YtmjoijfafachhaaGreatDoorZuAm
import Derived.Test.YtmjoijfafachhaaGreatDoorZuAn
import Derived.Test.YtmjoijfafachhaaGreatDoorZuAo
import Derived.Test.YtmjoijfafachhaaGreatDoorZuAp
import Derived.Test.YtmjoijfafachhaaGreatDoorZuAq
namespace Go.Proofs.YtmjoijfafachhaaGreatDoor
open Go Go.RowKit
/-- What prime gives: a contract. -/
def PrimeAt (S M : List Int) (L : Int) : Prop := ∀ (aS aM : Option Addr) (cS cM : Nat) (w : World) (B0 : Nat), B0 ≤ w.heap.size → TI w B0 aS S → TI w B0 aM M → Calls Tryz.prog 19 #[.agg #[.slice aS S.length cS, .slice aM M.length cM, .int .i64 L]] w fun e w' => ∃ A C, e = .returned (.slice A (primeL S M L).length C) ∧ DLO w' w.heap.size B0 A C (primeL S M L) ∧ Below w.heap.size w w'
set_option maxRecDepth 100000 in
set_option maxHeartbeats 4000000 in
theorem prime_leaf (S M : List Int) (L : Int) (hv : vldB S M L = true) (hc : cutsL S M = []) : PrimeAt S M L := fun aS aM cS cM w B0 hB0 hS hM => by
  have HC : Hid (∀ W', Below w.heap.size w W' → Calls Tryz.prog 12 #[.agg #[.slice aS S.length cS, .slice aM M.length cM, .int .i64 L]] W' fun e w' => ∃ A C, e = .returned (.slice A 0 C) ∧ Below W'.heap.size W' w') := Lib.hid fun W' h => (cuts_yes S M L aS aM cS cM W' hv (hS.at.later h) (hM.at.later h)).mono fun e w' ⟨A, C, he, _, _, hb⟩ => ⟨A, C, by rw [he, hc]; rfl, hb⟩
  rw [primeL_none hc]
  have HS := Lib.hid hS
  have HM := Lib.hid hM
  have H0 := Lib.hid ((HH.start w).alloc #[.slice aS S.length cS, .slice aM M.length cM, .int .i64 L] 24 rfl rfl)
  have HL : Hid (([(S, M, L)] : List Dgm).length = 1) := Lib.hid rfl
  rw [HL.out]
  clear hS hM hc hv
  go_enter Tryz.func19, Tryz.ntmps19
  go_wp2_with fail
  refine (HC.out _ H0.out.below).mono ?_
  rintro e w1 ⟨A1, C1, rfl, hb⟩
  have H1 := Lib.hid (H0.out.call hb)
  clear hb H0 HC
  have k0 := H1.out.cell (k := 0) (i := 0) rfl rfl
  have k1 := H1.out.cell (k := 0) (i := 1) rfl rfl
  have k2 := H1.out.cell (k := 0) (i := 2) rfl rfl
  go_wp2_with fail
  go_ret
  have hb : Below w.heap.size w (w1.alloc (.cells #[.slice aS S.length cS, .slice aM M.length cM, .int .i64 L] 24)) := H1.out.below.trans ((Below.refl _ _).alloc H1.out.below.size _)
  exact ⟨_, 1, rfl, ⟨_, Own.made #[.slice aS S.length cS, .slice aM M.length cM, .int .i64 L] H1.out.below.size, Nat.le_refl _, CellsOf.one (HS.out.later hb) (HM.out.later hb)⟩, hb⟩
set_option maxRecDepth 100000 in
set_option maxHeartbeats 4000000 in
theorem prime_fork (S M : List Int) (L : Int) (hv : vldB S M L = true) (p : Nat × Nat) (l : List (Nat × Nat)) (hc : cutsL S M = p :: l) (hA : PrimeAt (facA S M p.1 p.2).1 (facA S M p.1 p.2).2.1 0) (hB : PrimeAt (facB S M p.1 p.2).1 (facB S M p.1 p.2).2.1 0) : PrimeAt S M L := fun aS aM cS cM w B0 hB0 hS hM => by
  obtain ⟨x, y⟩ := p
  obtain ⟨m1, m2, m3, m4, m5, m6⟩ := (mem_cuts hv).1 (show (x, y) ∈ cutsL S M by rw [hc]; exact List.mem_cons_self)
  have m1 : x < y := m1
  have m2 : y < 4 * S.length := m2
  obtain ⟨_, va, vb, la, lb⟩ := fac_cuts0 hv hc
  have hfw := (vldB_shape hv).few
  have na := primeL_len va
  have nb := primeL_len vb
  have hcl : (cutsL S M).length = l.length + 1 := by rw [hc]; rfl
  have hpc := primeL_cons hv hc
  have HC : Hid (∀ W', Below w.heap.size w W' → Calls Tryz.prog 12 #[.agg #[.slice aS S.length cS, .slice aM M.length cM, .int .i64 L]] W' fun e w' => ∃ A C, e = .returned (.slice A (l.length + 1) C) ∧ Own w' W'.heap.size 41 A (C * 2) (prs ((x, y) :: l)) ∧ Below W'.heap.size W' w') := Lib.hid fun W' h => (cuts_yes S M L aS aM cS cM W' hv (hS.at.later h) (hM.at.later h)).mono fun e w' ⟨A, C, he, _, ho, hb⟩ => ⟨A, C, by rw [he, hcl], by rw [← hc]; exact ho, hb⟩
  have HF : Hid (∀ W', Below w.heap.size w W' → Calls Tryz.prog 39 #[.agg #[.slice aS S.length cS, .slice aM M.length cM, .int .i64 L], .int .i64 (x : Int), .int .i64 (y : Int)] W' fun e w' => ∃ a b c d a' b' c' d', e = .returned (.tuple #[.agg #[.slice a (facA S M x y).1.length c, .slice b (facA S M x y).2.1.length d, .int .i64 0], .agg #[.slice a' (facB S M x y).1.length c', .slice b' (facB S M x y).2.1.length d', .int .i64 0], .int .i64 0]) ∧
      Own w' W'.heap.size 3 a c (ints (facA S M x y).1) ∧ Own w' W'.heap.size 3 b d (ints (facA S M x y).2.1) ∧ Own w' W'.heap.size 3 a' c' (ints (facB S M x y).1) ∧ Own w' W'.heap.size 3 b' d' (ints (facB S M x y).2.1) ∧ Below W'.heap.size W' w') := Lib.hid fun W' h =>
    factor_yes S M L aS aM cS cM x y W' hv (by omega) m2 m3 m4 (by omega) m5 m6 (hS.at.later h) (hM.at.later h)
  have va : vldB (facA S M x y).1 (facA S M x y).2.1 0 = true := va
  have la : (facA S M x y).1.length < S.length := la
  have lb : (facB S M x y).1.length < S.length := lb
  have hA : PrimeAt (facA S M x y).1 (facA S M x y).2.1 0 := hA
  have hB : PrimeAt (facB S M x y).1 (facB S M x y).2.1 0 := hB
  have na : (primeL (facA S M x y).1 (facA S M x y).2.1 0).length ≤ 64 := na
  have nb : (primeL (facB S M x y).1 (facB S M x y).2.1 0).length ≤ 64 := nb
  have hpc : primeL S M L = primeL (facA S M x y).1 (facA S M x y).2.1 0 ++ primeL (facB S M x y).1 (facB S M x y).2.1 0 := hpc
  rw [hpc, List.length_append]
  generalize facA S M x y = A at *
  generalize facB S M x y = B at *
  obtain ⟨SA, MA, LA⟩ := A
  obtain ⟨SB, MB, LB⟩ := B
  dsimp only at *
  unfold PrimeAt at hA hB
  generalize primeL SA MA 0 = PA at *
  generalize primeL SB MB 0 = PB at *
  have HPA := Lib.hid hA
  have HPB := Lib.hid hB
  have hxl : (x : Int) ≤ 255 := by omega
  have hyl : (y : Int) ≤ 255 := by omega
  clear hS hM hc hcl hv va vb m1 m2 m3 m4 m5 m6 hpc hA hB
  generalize l.length = ll at *
  have d0 : ((ll : Int) + 1 == 0) = false := by rw [beq_eq_false_iff_ne]; omega
  have d1 : decide (S.length ≤ SA.length) = false := decide_eq_false (by omega)
  have d2 : decide (S.length ≤ SB.length) = false := decide_eq_false (by omega)
  have H0 := Lib.hid ((HH.start w).alloc #[.slice aS S.length cS, .slice aM M.length cM, .int .i64 L] 24 rfl rfl)
  go_enter Tryz.func19, Tryz.ntmps19
  go_wp2_with fail
  refine (HC.out _ H0.out.below).mono ?_
  rintro e w1 ⟨A1, C1, rfl, ho, hb⟩
  have H1 := Lib.hid (H0.out.addSl hb ho)
  clear ho hb H0 HC
  obtain ⟨bc, oc, rfl, _, _, hcc, _⟩ := (H1.out.sl (k := 0) rfl).open (by show 0 < (prs ((x, y) :: l)).length; rw [prs_len]; simp)
  have hcc : ∀ i v, (prs ((x, y) :: l))[i]? = some v → w1.cell? ⟨bc, oc + i, none⟩ = some v := hcc
  have c0 := hcc 0 _ rfl
  have c1 := hcc 1 _ rfl
  have HKS : Hid (∀ (W' : World) (k : Kn) (s : List SlO), HH w W' ((w.heap.size, rowO 24 [.slice aS S.length cS, .slice aM M.length cM, .int .i64 L]) :: k) (⟨some ⟨bc, oc, none⟩, C1 * 2, 41, prs ((x, y) :: l)⟩ :: s) → W'.cell? ⟨w.heap.size, 0, none⟩ = some (.slice aS S.length cS) ∧ W'.cell? ⟨w.heap.size, 1, none⟩ = some (.slice aM M.length cM) ∧ W'.cell? ⟨w.heap.size, 2, none⟩ = some (.int .i64 L) ∧ W'.cell? ⟨bc, oc, none⟩ = some (.int .i64 (x : Int)) ∧ W'.cell? ⟨bc, oc + 1, none⟩ = some (.int .i64 (y : Int))) := Lib.hid fun W' k s h => by
    obtain ⟨b9, o9, e9, _, _, hc9, _⟩ := (h.sl (k := 0) rfl).open (by show 0 < (prs ((x, y) :: l)).length; rw [prs_len]; simp)
    cases e9
    exact ⟨h.cell (k := 0) (i := 0) rfl rfl, h.cell (k := 0) (i := 1) rfl rfl, h.cell (k := 0) (i := 2) rfl rfl, hc9 0 _ rfl, hc9 1 _ rfl⟩
  clear hcc
  go_upto_region 4 with fail
  have G0 := Lib.hid H1.out.drew
  have G1 := Lib.hid (H1.out.alloc #[.slice none 0 0, .slice none 0 0, .int .i64 0] 24 (b := w1.heap.size) rfl rfl).drew
  have G2 := Lib.hid ((H1.out.alloc #[.slice none 0 0, .slice none 0 0, .int .i64 0] 24 (b := w1.heap.size) rfl rfl).alloc #[.slice none 0 0, .slice none 0 0, .int .i64 0] 24 (b := w1.heap.size + 1) (by simp) rfl).drew
  have Q0 := Lib.hid (HKS.out _ _ _ G0.out)
  have Q1 := Lib.hid (HKS.out _ _ _ G1.out)
  have Q2 := Lib.hid (HKS.out _ _ _ G2.out)
  have q0 := Q0.out
  clear H1
  go_cut [4, 5, 6] (fun s4 s5 s6 wx => ∃ (r4 r5 : Nat) (a5 b5 a6 b6 : Option Addr) (c5 d5 c6 d6 : Nat), s4 = .pointer (some ⟨r4, 0, none⟩) ∧ s5 = .pointer (some ⟨r5, 0, none⟩) ∧ s6 = .int .i64 0 ∧ Row wx w.heap.size 24 [.slice aS S.length cS, .slice aM M.length cM, .int .i64 L] ∧ Row wx r4 24 [.slice a5 SA.length c5, .slice b5 MA.length d5, .int .i64 0] ∧ Row wx r5 24 [.slice a6 SB.length c6, .slice b6 MB.length d6, .int .i64 0] ∧ TI wx B0 a5 SA ∧ TI wx B0 b5 MA ∧ TI wx B0 a6 SB ∧ TI wx B0 b6 MB ∧ Below w.heap.size w wx)
  case first =>
    go_region_held3 (fun W' => W'.cell? ⟨w.heap.size, 0, none⟩ = some (.slice aS S.length cS) ∧ W'.cell? ⟨w.heap.size, 1, none⟩ = some (.slice aM M.length cM) ∧ W'.cell? ⟨w.heap.size, 2, none⟩ = some (.int .i64 L) ∧ W'.cell? ⟨bc, oc, none⟩ = some (.int .i64 (x : Int)) ∧ W'.cell? ⟨bc, oc + 1, none⟩ = some (.int .i64 (y : Int)))
      (first
        | with_reducible exact Q0.out
        | with_reducible exact Q1.out
        | with_reducible exact Q2.out
        | with_reducible exact R0.out
        | with_reducible exact R1.out _
        | with_reducible exact R2.out _ _
        | with_reducible exact T1.out _ _ _ _
        | with_reducible exact T1.out _ _ _
        | with_reducible exact T2.out _ _ _
        | with_reducible exact T3.out (.cells #[] 24) _ _ _ _ _ _
        | with_reducible exact U1.out _ _ _ _ _ _
        | with_reducible exact U2.out _ _ _ _ _ _)
      (first
        | ((with_reducible refine (HF.out _ G0.out.below).mono ?_); rintro e w5 ⟨a5, b5, c5, d5, a6, b6, c6, d6, rfl, o1, o2, o3, o4, hb⟩; have F0 := Lib.hid (G0.out.call hb); have R0 := Lib.hid (HKS.out _ _ _ F0.out); have OO := Lib.hid (And.intro (And.intro o1 o2) (And.intro o3 o4)); clear o1 o2 o3 o4 hb; have R1 := Lib.hid (fun (o : Obj) => HKS.out _ _ _ (F0.out.call ((Below.refl _ _).alloc (Nat.le_refl _) o))); have R2 := Lib.hid (fun (o o' : Obj) => HKS.out _ _ _ (F0.out.call (((Below.refl _ _).alloc (Nat.le_refl _) o).alloc (by simp) o'))))
        | ((with_reducible refine (HF.out _ G1.out.below).mono ?_); rintro e w5 ⟨a5, b5, c5, d5, a6, b6, c6, d6, rfl, o1, o2, o3, o4, hb⟩; have F0 := Lib.hid (G1.out.call hb); have R0 := Lib.hid (HKS.out _ _ _ F0.out); have OO := Lib.hid (And.intro (And.intro o1 o2) (And.intro o3 o4)); clear o1 o2 o3 o4 hb; have R1 := Lib.hid (fun (o : Obj) => HKS.out _ _ _ (F0.out.call ((Below.refl _ _).alloc (Nat.le_refl _) o))); have e10 := F0.out.cell (k := 1) (i := 0) rfl rfl; have f10 := F0.out.frozen (k := 1) rfl 0; have e20 := (fun (o : Obj) => (F0.out.call ((Below.refl _ _).alloc (Nat.le_refl _) o)).cell (k := 1) (i := 0) rfl rfl); have f20 := (fun (o : Obj) => (F0.out.call ((Below.refl _ _).alloc (Nat.le_refl _) o)).frozen (k := 1) rfl 0); have e11 := F0.out.cell (k := 1) (i := 1) rfl rfl; have f11 := F0.out.frozen (k := 1) rfl 1; have e21 := (fun (o : Obj) => (F0.out.call ((Below.refl _ _).alloc (Nat.le_refl _) o)).cell (k := 1) (i := 1) rfl rfl); have f21 := (fun (o : Obj) => (F0.out.call ((Below.refl _ _).alloc (Nat.le_refl _) o)).frozen (k := 1) rfl 1); have e12 := F0.out.cell (k := 1) (i := 2) rfl rfl; have f12 := F0.out.frozen (k := 1) rfl 2; have e22 := (fun (o : Obj) => (F0.out.call ((Below.refl _ _).alloc (Nat.le_refl _) o)).cell (k := 1) (i := 2) rfl rfl); have f22 := (fun (o : Obj) => (F0.out.call ((Below.refl _ _).alloc (Nat.le_refl _) o)).frozen (k := 1) rfl 2); have hlt : w1.heap.size < w5.heap.size := (F0.out.obj (k := 1) rfl).2.1; have nd3 : ¬ w1.heap.size = w5.heap.size := Nat.ne_of_lt hlt; have nd4 : ¬ w5.heap.size = w1.heap.size := fun h => nd3 h.symm; clear hlt; have T3 := Lib.hid (fun (o : Obj) (u0 u1 u2 v0 v1 v2 : Value) => HKS.out _ _ _ (((((((F0.out.alloc #[.slice none 0 0, .slice none 0 0, .int .i64 0] 24 (b := w5.heap.size) rfl rfl).set (k := 1) rfl 0 u0).set (k := 1) rfl 1 u1).set (k := 1) rfl 2 u2).set (k := 2) rfl 0 v0).set (k := 2) rfl 1 v1).set (k := 2) rfl 2 v2)); have T1 := Lib.hid (fun (o : Obj) (u0 u1 u2 : Value) => HKS.out _ _ _ ((((F0.out.call ((Below.refl _ _).alloc (Nat.le_refl _) o)).set (k := 1) rfl 0 u0).set (k := 1) rfl 1 u1).set (k := 1) rfl 2 u2)); have T2 := Lib.hid (fun (u0 u1 u2 : Value) => HKS.out _ _ _ (((F0.out.set (k := 1) rfl 0 u0).set (k := 1) rfl 1 u1).set (k := 1) rfl 2 u2)))
        | ((with_reducible refine (HF.out _ G2.out.below).mono ?_); rintro e w5 ⟨a5, b5, c5, d5, a6, b6, c6, d6, rfl, o1, o2, o3, o4, hb⟩; have F0 := Lib.hid (G2.out.call hb); have R0 := Lib.hid (HKS.out _ _ _ F0.out); have OO := Lib.hid (And.intro (And.intro o1 o2) (And.intro o3 o4)); clear o1 o2 o3 o4 hb; have e10 := F0.out.cell (k := 1) (i := 0) rfl rfl; have f10 := F0.out.frozen (k := 1) rfl 0; have e11 := F0.out.cell (k := 1) (i := 1) rfl rfl; have f11 := F0.out.frozen (k := 1) rfl 1; have e12 := F0.out.cell (k := 1) (i := 2) rfl rfl; have f12 := F0.out.frozen (k := 1) rfl 2; have e20 := F0.out.cell (k := 2) (i := 0) rfl rfl; have f20 := F0.out.frozen (k := 2) rfl 0; have e21 := F0.out.cell (k := 2) (i := 1) rfl rfl; have f21 := F0.out.frozen (k := 2) rfl 1; have e22 := F0.out.cell (k := 2) (i := 2) rfl rfl; have f22 := F0.out.frozen (k := 2) rfl 2; have T1 := Lib.hid (fun (u0 u1 u2 : Value) => HKS.out _ _ _ (((F0.out.set (k := 1) rfl 0 u0).set (k := 1) rfl 1 u1).set (k := 1) rfl 2 u2)); have U1 := Lib.hid (fun (u0 u1 u2 v0 v1 v2 : Value) => HKS.out _ _ _ ((((((F0.out.set (k := 1) rfl 0 u0).set (k := 1) rfl 1 u1).set (k := 1) rfl 2 u2).set (k := 2) rfl 0 v0).set (k := 2) rfl 1 v1).set (k := 2) rfl 2 v2)); have T2 := Lib.hid (fun (u0 u1 u2 : Value) => HKS.out _ _ _ (((F0.out.set (k := 2) rfl 0 u0).set (k := 2) rfl 1 u1).set (k := 2) rfl 2 u2)); have U2 := Lib.hid (fun (u0 u1 u2 v0 v1 v2 : Value) => HKS.out _ _ _ ((((((F0.out.set (k := 2) rfl 0 u0).set (k := 2) rfl 1 u1).set (k := 2) rfl 2 u2).set (k := 1) rfl 0 v0).set (k := 1) rfl 1 v1).set (k := 1) rfl 2 v2)); have nd3 : ¬ w1.heap.size = w1.heap.size + 1 := Nat.ne_of_lt (Nat.lt_succ_self _); have nd4 : ¬ w1.heap.size + 1 = w1.heap.size := fun h => nd3 h.symm))
    · have H := Lib.hid ((F0.out.alloc #[.slice a5 SA.length c5, .slice b5 MA.length d5, .int .i64 0] 24 (b := w5.heap.size) rfl rfl).alloc #[.slice a6 SB.length c6, .slice b6 MB.length d6, .int .i64 0] 24 (b := w5.heap.size + 1) (by simp) rfl)
      clear Q0 Q1 Q2 q0
      go_wp2_with fail
      go_meet
      exact ⟨_, _, a5, b5, a6, b6, c5, d5, c6, d6, rfl, rfl, rfl, H.out.row (k := 0) rfl, H.out.row (k := 1) rfl, H.out.row (k := 2) rfl, TI.own ((OO.out.1.1.alloc (.cells #[.slice a5 SA.length c5, .slice b5 MA.length d5, .int .i64 0] 24)).alloc (.cells #[.slice a6 SB.length c6, .slice b6 MB.length d6, .int .i64 0] 24)), TI.own ((OO.out.1.2.alloc (.cells #[.slice a5 SA.length c5, .slice b5 MA.length d5, .int .i64 0] 24)).alloc (.cells #[.slice a6 SB.length c6, .slice b6 MB.length d6, .int .i64 0] 24)), TI.own ((OO.out.2.1.alloc (.cells #[.slice a5 SA.length c5, .slice b5 MA.length d5, .int .i64 0] 24)).alloc (.cells #[.slice a6 SB.length c6, .slice b6 MB.length d6, .int .i64 0] 24)), TI.own ((OO.out.2.2.alloc (.cells #[.slice a5 SA.length c5, .slice b5 MA.length d5, .int .i64 0] 24)).alloc (.cells #[.slice a6 SB.length c6, .slice b6 MB.length d6, .int .i64 0] 24)), H.out.below⟩
    · have H := Lib.hid ((F0.out.alloc #[.slice a6 SB.length c6, .slice b6 MB.length d6, .int .i64 0] 24 (b := w5.heap.size) rfl rfl).alloc #[.slice a5 SA.length c5, .slice b5 MA.length d5, .int .i64 0] 24 (b := w5.heap.size + 1) (by simp) rfl)
      clear Q0 Q1 Q2 q0
      go_wp2_with fail
      go_meet
      exact ⟨_, _, a5, b5, a6, b6, c5, d5, c6, d6, rfl, rfl, rfl, H.out.row (k := 0) rfl, H.out.row (k := 2) rfl, H.out.row (k := 1) rfl, TI.own ((OO.out.1.1.alloc (.cells #[.slice a6 SB.length c6, .slice b6 MB.length d6, .int .i64 0] 24)).alloc (.cells #[.slice a5 SA.length c5, .slice b5 MA.length d5, .int .i64 0] 24)), TI.own ((OO.out.1.2.alloc (.cells #[.slice a6 SB.length c6, .slice b6 MB.length d6, .int .i64 0] 24)).alloc (.cells #[.slice a5 SA.length c5, .slice b5 MA.length d5, .int .i64 0] 24)), TI.own ((OO.out.2.1.alloc (.cells #[.slice a6 SB.length c6, .slice b6 MB.length d6, .int .i64 0] 24)).alloc (.cells #[.slice a5 SA.length c5, .slice b5 MA.length d5, .int .i64 0] 24)), TI.own ((OO.out.2.2.alloc (.cells #[.slice a6 SB.length c6, .slice b6 MB.length d6, .int .i64 0] 24)).alloc (.cells #[.slice a5 SA.length c5, .slice b5 MA.length d5, .int .i64 0] 24)), H.out.below⟩
    · have H := Lib.hid (((((((F0.out.alloc #[.slice none 0 0, .slice none 0 0, .int .i64 0] 24 (b := w5.heap.size) rfl rfl).set (k := 1) rfl 0 (.slice a5 SA.length c5)).set (k := 1) rfl 1 (.slice b5 MA.length d5)).set (k := 1) rfl 2 (.int .i64 0)).set (k := 2) rfl 0 (.slice a6 SB.length c6)).set (k := 2) rfl 1 (.slice b6 MB.length d6)).set (k := 2) rfl 2 (.int .i64 0))
      clear Q0 Q1 Q2 q0
      go_wp2_with fail
      go_meet
      exact ⟨_, _, a5, b5, a6, b6, c5, d5, c6, d6, rfl, rfl, rfl, H.out.row (k := 0) rfl, H.out.row (k := 1) rfl, H.out.row (k := 2) rfl, TI.own (((OO.out.1.1.alloc (.cells #[.slice none 0 0, .slice none 0 0, .int .i64 0] 24)).box3 ((F0.out.alloc #[.slice none 0 0, .slice none 0 0, .int .i64 0] 24 (b := w5.heap.size) rfl rfl).row (k := 1) rfl) (.slice a5 SA.length c5) (.slice b5 MA.length d5) (.int .i64 0)).box3 (((((F0.out.alloc #[.slice none 0 0, .slice none 0 0, .int .i64 0] 24 (b := w5.heap.size) rfl rfl).set (k := 1) rfl 0 (.slice a5 SA.length c5)).set (k := 1) rfl 1 (.slice b5 MA.length d5)).set (k := 1) rfl 2 (.int .i64 0)).row (k := 2) rfl) (.slice a6 SB.length c6) (.slice b6 MB.length d6) (.int .i64 0)), TI.own (((OO.out.1.2.alloc (.cells #[.slice none 0 0, .slice none 0 0, .int .i64 0] 24)).box3 ((F0.out.alloc #[.slice none 0 0, .slice none 0 0, .int .i64 0] 24 (b := w5.heap.size) rfl rfl).row (k := 1) rfl) (.slice a5 SA.length c5) (.slice b5 MA.length d5) (.int .i64 0)).box3 (((((F0.out.alloc #[.slice none 0 0, .slice none 0 0, .int .i64 0] 24 (b := w5.heap.size) rfl rfl).set (k := 1) rfl 0 (.slice a5 SA.length c5)).set (k := 1) rfl 1 (.slice b5 MA.length d5)).set (k := 1) rfl 2 (.int .i64 0)).row (k := 2) rfl) (.slice a6 SB.length c6) (.slice b6 MB.length d6) (.int .i64 0)), TI.own (((OO.out.2.1.alloc (.cells #[.slice none 0 0, .slice none 0 0, .int .i64 0] 24)).box3 ((F0.out.alloc #[.slice none 0 0, .slice none 0 0, .int .i64 0] 24 (b := w5.heap.size) rfl rfl).row (k := 1) rfl) (.slice a5 SA.length c5) (.slice b5 MA.length d5) (.int .i64 0)).box3 (((((F0.out.alloc #[.slice none 0 0, .slice none 0 0, .int .i64 0] 24 (b := w5.heap.size) rfl rfl).set (k := 1) rfl 0 (.slice a5 SA.length c5)).set (k := 1) rfl 1 (.slice b5 MA.length d5)).set (k := 1) rfl 2 (.int .i64 0)).row (k := 2) rfl) (.slice a6 SB.length c6) (.slice b6 MB.length d6) (.int .i64 0)), TI.own (((OO.out.2.2.alloc (.cells #[.slice none 0 0, .slice none 0 0, .int .i64 0] 24)).box3 ((F0.out.alloc #[.slice none 0 0, .slice none 0 0, .int .i64 0] 24 (b := w5.heap.size) rfl rfl).row (k := 1) rfl) (.slice a5 SA.length c5) (.slice b5 MA.length d5) (.int .i64 0)).box3 (((((F0.out.alloc #[.slice none 0 0, .slice none 0 0, .int .i64 0] 24 (b := w5.heap.size) rfl rfl).set (k := 1) rfl 0 (.slice a5 SA.length c5)).set (k := 1) rfl 1 (.slice b5 MA.length d5)).set (k := 1) rfl 2 (.int .i64 0)).row (k := 2) rfl) (.slice a6 SB.length c6) (.slice b6 MB.length d6) (.int .i64 0)), H.out.below⟩
    · have H := Lib.hid ((((((F0.out.set (k := 1) rfl 0 (.slice a5 SA.length c5)).set (k := 1) rfl 1 (.slice b5 MA.length d5)).set (k := 1) rfl 2 (.int .i64 0)).set (k := 2) rfl 0 (.slice a6 SB.length c6)).set (k := 2) rfl 1 (.slice b6 MB.length d6)).set (k := 2) rfl 2 (.int .i64 0))
      clear Q0 Q1 Q2 q0
      go_wp2_with fail
      go_meet
      exact ⟨_, _, a5, b5, a6, b6, c5, d5, c6, d6, rfl, rfl, rfl, H.out.row (k := 0) rfl, H.out.row (k := 1) rfl, H.out.row (k := 2) rfl, TI.own ((OO.out.1.1.box3 (F0.out.row (k := 1) rfl) (.slice a5 SA.length c5) (.slice b5 MA.length d5) (.int .i64 0)).box3 ((((F0.out.set (k := 1) rfl 0 (.slice a5 SA.length c5)).set (k := 1) rfl 1 (.slice b5 MA.length d5)).set (k := 1) rfl 2 (.int .i64 0)).row (k := 2) rfl) (.slice a6 SB.length c6) (.slice b6 MB.length d6) (.int .i64 0)), TI.own ((OO.out.1.2.box3 (F0.out.row (k := 1) rfl) (.slice a5 SA.length c5) (.slice b5 MA.length d5) (.int .i64 0)).box3 ((((F0.out.set (k := 1) rfl 0 (.slice a5 SA.length c5)).set (k := 1) rfl 1 (.slice b5 MA.length d5)).set (k := 1) rfl 2 (.int .i64 0)).row (k := 2) rfl) (.slice a6 SB.length c6) (.slice b6 MB.length d6) (.int .i64 0)), TI.own ((OO.out.2.1.box3 (F0.out.row (k := 1) rfl) (.slice a5 SA.length c5) (.slice b5 MA.length d5) (.int .i64 0)).box3 ((((F0.out.set (k := 1) rfl 0 (.slice a5 SA.length c5)).set (k := 1) rfl 1 (.slice b5 MA.length d5)).set (k := 1) rfl 2 (.int .i64 0)).row (k := 2) rfl) (.slice a6 SB.length c6) (.slice b6 MB.length d6) (.int .i64 0)), TI.own ((OO.out.2.2.box3 (F0.out.row (k := 1) rfl) (.slice a5 SA.length c5) (.slice b5 MA.length d5) (.int .i64 0)).box3 ((((F0.out.set (k := 1) rfl 0 (.slice a5 SA.length c5)).set (k := 1) rfl 1 (.slice b5 MA.length d5)).set (k := 1) rfl 2 (.int .i64 0)).row (k := 2) rfl) (.slice a6 SB.length c6) (.slice b6 MB.length d6) (.int .i64 0)), H.out.below⟩
    · have H := Lib.hid ((((F0.out.alloc #[.slice a5 SA.length c5, .slice b5 MA.length d5, .int .i64 0] 24 (b := w5.heap.size) rfl rfl).set (k := 1) rfl 0 (.slice a6 SB.length c6)).set (k := 1) rfl 1 (.slice b6 MB.length d6)).set (k := 1) rfl 2 (.int .i64 0))
      clear Q0 Q1 Q2 q0
      go_wp2_with fail
      go_meet
      exact ⟨_, _, a5, b5, a6, b6, c5, d5, c6, d6, rfl, rfl, rfl, H.out.row (k := 0) rfl, H.out.row (k := 2) rfl, H.out.row (k := 1) rfl, TI.own ((OO.out.1.1.alloc (.cells #[.slice a5 SA.length c5, .slice b5 MA.length d5, .int .i64 0] 24)).box3 ((F0.out.alloc #[.slice a5 SA.length c5, .slice b5 MA.length d5, .int .i64 0] 24 (b := w5.heap.size) rfl rfl).row (k := 1) rfl) (.slice a6 SB.length c6) (.slice b6 MB.length d6) (.int .i64 0)), TI.own ((OO.out.1.2.alloc (.cells #[.slice a5 SA.length c5, .slice b5 MA.length d5, .int .i64 0] 24)).box3 ((F0.out.alloc #[.slice a5 SA.length c5, .slice b5 MA.length d5, .int .i64 0] 24 (b := w5.heap.size) rfl rfl).row (k := 1) rfl) (.slice a6 SB.length c6) (.slice b6 MB.length d6) (.int .i64 0)), TI.own ((OO.out.2.1.alloc (.cells #[.slice a5 SA.length c5, .slice b5 MA.length d5, .int .i64 0] 24)).box3 ((F0.out.alloc #[.slice a5 SA.length c5, .slice b5 MA.length d5, .int .i64 0] 24 (b := w5.heap.size) rfl rfl).row (k := 1) rfl) (.slice a6 SB.length c6) (.slice b6 MB.length d6) (.int .i64 0)), TI.own ((OO.out.2.2.alloc (.cells #[.slice a5 SA.length c5, .slice b5 MA.length d5, .int .i64 0] 24)).box3 ((F0.out.alloc #[.slice a5 SA.length c5, .slice b5 MA.length d5, .int .i64 0] 24 (b := w5.heap.size) rfl rfl).row (k := 1) rfl) (.slice a6 SB.length c6) (.slice b6 MB.length d6) (.int .i64 0)), H.out.below⟩
    · have H := Lib.hid ((((((F0.out.set (k := 2) rfl 0 (.slice a5 SA.length c5)).set (k := 2) rfl 1 (.slice b5 MA.length d5)).set (k := 2) rfl 2 (.int .i64 0)).set (k := 1) rfl 0 (.slice a6 SB.length c6)).set (k := 1) rfl 1 (.slice b6 MB.length d6)).set (k := 1) rfl 2 (.int .i64 0))
      clear Q0 Q1 Q2 q0
      go_wp2_with fail
      go_meet
      exact ⟨_, _, a5, b5, a6, b6, c5, d5, c6, d6, rfl, rfl, rfl, H.out.row (k := 0) rfl, H.out.row (k := 2) rfl, H.out.row (k := 1) rfl, TI.own ((OO.out.1.1.box3 (F0.out.row (k := 2) rfl) (.slice a5 SA.length c5) (.slice b5 MA.length d5) (.int .i64 0)).box3 ((((F0.out.set (k := 2) rfl 0 (.slice a5 SA.length c5)).set (k := 2) rfl 1 (.slice b5 MA.length d5)).set (k := 2) rfl 2 (.int .i64 0)).row (k := 1) rfl) (.slice a6 SB.length c6) (.slice b6 MB.length d6) (.int .i64 0)), TI.own ((OO.out.1.2.box3 (F0.out.row (k := 2) rfl) (.slice a5 SA.length c5) (.slice b5 MA.length d5) (.int .i64 0)).box3 ((((F0.out.set (k := 2) rfl 0 (.slice a5 SA.length c5)).set (k := 2) rfl 1 (.slice b5 MA.length d5)).set (k := 2) rfl 2 (.int .i64 0)).row (k := 1) rfl) (.slice a6 SB.length c6) (.slice b6 MB.length d6) (.int .i64 0)), TI.own ((OO.out.2.1.box3 (F0.out.row (k := 2) rfl) (.slice a5 SA.length c5) (.slice b5 MA.length d5) (.int .i64 0)).box3 ((((F0.out.set (k := 2) rfl 0 (.slice a5 SA.length c5)).set (k := 2) rfl 1 (.slice b5 MA.length d5)).set (k := 2) rfl 2 (.int .i64 0)).row (k := 1) rfl) (.slice a6 SB.length c6) (.slice b6 MB.length d6) (.int .i64 0)), TI.own ((OO.out.2.2.box3 (F0.out.row (k := 2) rfl) (.slice a5 SA.length c5) (.slice b5 MA.length d5) (.int .i64 0)).box3 ((((F0.out.set (k := 2) rfl 0 (.slice a5 SA.length c5)).set (k := 2) rfl 1 (.slice b5 MA.length d5)).set (k := 2) rfl 2 (.int .i64 0)).row (k := 1) rfl) (.slice a6 SB.length c6) (.slice b6 MB.length d6) (.int .i64 0)), H.out.below⟩
  case rest =>
    obtain ⟨r4, r5, a5, b5, a6, b6, c5, d5, c6, d6, rfl, rfl, rfl, hbx, h4, h5, t1, t2, t3, t4, hb⟩ := hcut
    have e0 : wc.cell? ⟨w.heap.size, 0, none⟩ = some (.slice aS S.length cS) := (hbx.cell 0).trans rfl
    have e4 : wc.cell? ⟨r4, 0, none⟩ = some (.slice a5 SA.length c5) := (h4.cell 0).trans rfl
    have e5 : wc.cell? ⟨r5, 0, none⟩ = some (.slice a6 SB.length c6) := (h5.cell 0).trans rfl
    have HT := Lib.hid (And.intro (And.intro h4 h5) (And.intro (And.intro t1 t2) (And.intro t3 t4)))
    have Hb := Lib.hid hb
    clear hbx h4 h5 t1 t2 t3 t4 hb HF HKS
    go_upto_region 7 with fail
    clear e0 e4 e5
    have hz : w.heap.size ≤ wc.heap.size := Hb.out.size
    have hz0 : B0 ≤ wc.drew.heap.size := Nat.le_trans hB0 hz
    have bd := (Below.refl wc.heap.size wc).drew
    have T0 : Hid ((Row wc.drew r4 24 [.slice a5 SA.length c5, .slice b5 MA.length d5, .int .i64 0] ∧ Row wc.drew r5 24 [.slice a6 SB.length c6, .slice b6 MB.length d6, .int .i64 0]) ∧ (TI wc.drew B0 a5 SA ∧ TI wc.drew B0 b5 MA) ∧ TI wc.drew B0 a6 SB ∧ TI wc.drew B0 b6 MB) := Lib.hid (And.intro (And.intro (HT.out.1.1.later bd HT.out.1.1.lt) (HT.out.1.2.later bd HT.out.1.2.lt)) (And.intro (And.intro (HT.out.2.1.1.later bd) (HT.out.2.1.2.later bd)) (And.intro (HT.out.2.2.1.later bd) (HT.out.2.2.2.later bd))))
    have Hb0 : Hid (Below w.heap.size w wc.drew) := Lib.hid Hb.out.drew
    clear HT Hb bd
    have Q0 : Hid (wc.drew.cell? ⟨r4, 0, none⟩ = some (.slice a5 SA.length c5) ∧ wc.drew.cell? ⟨r4, 1, none⟩ = some (.slice b5 MA.length d5) ∧ wc.drew.cell? ⟨r4, 2, none⟩ = some (.int .i64 0) ∧ wc.drew.cell? ⟨r5, 0, none⟩ = some (.slice a6 SB.length c6) ∧ wc.drew.cell? ⟨r5, 1, none⟩ = some (.slice b6 MB.length d6) ∧ wc.drew.cell? ⟨r5, 2, none⟩ = some (.int .i64 0)) := Lib.hid ⟨(T0.out.1.1.cell 0).trans rfl, (T0.out.1.1.cell 1).trans rfl, (T0.out.1.1.cell 2).trans rfl, (T0.out.1.2.cell 0).trans rfl, (T0.out.1.2.cell 1).trans rfl, (T0.out.1.2.cell 2).trans rfl⟩
    have q0 := Q0.out
    have hPA : PA.length ≤ 64 := na
    have hPB : PB.length ≤ 64 := nb
    obtain ⟨i0, hi0, hz0', hz1, hz2⟩ := info_parts Tryz.info24
    have Hzc : Hid ((Value.agg #[.slice none 0 0, .slice none 0 0, .int .i64 0]).cells.size = 3) := Lib.hid rfl
    go_region_held3 (fun W' => W'.cell? ⟨r4, 0, none⟩ = some (.slice a5 SA.length c5) ∧ W'.cell? ⟨r4, 1, none⟩ = some (.slice b5 MA.length d5) ∧ W'.cell? ⟨r4, 2, none⟩ = some (.int .i64 0) ∧ W'.cell? ⟨r5, 0, none⟩ = some (.slice a6 SB.length c6) ∧ W'.cell? ⟨r5, 1, none⟩ = some (.slice b6 MB.length d6) ∧ W'.cell? ⟨r5, 2, none⟩ = some (.int .i64 0))
      (first
        | with_reducible exact Q0.out
        | with_reducible exact Q6.out
        | with_reducible exact Q7.out
        | with_reducible exact Q8.out)
      (first
        | ((with_reducible refine (HPA.out a5 b5 c5 d5 _ B0 hz0 T0.out.2.1.1 T0.out.2.1.2).mono ?_); rintro e w6 ⟨A6, C6, rfl, hd, hb⟩; have D6 := Lib.hid hd; have B6 := Lib.hid hb; have T6 := Lib.hid (And.intro (And.intro (T0.out.1.1.later hb T0.out.1.1.lt) (T0.out.1.2.later hb T0.out.1.2.lt)) (And.intro (T0.out.2.2.1.later hb) (T0.out.2.2.2.later hb))); have Q6 : Hid (w6.cell? ⟨r4, 0, none⟩ = some (.slice a5 SA.length c5) ∧ w6.cell? ⟨r4, 1, none⟩ = some (.slice b5 MA.length d5) ∧ w6.cell? ⟨r4, 2, none⟩ = some (.int .i64 0) ∧ w6.cell? ⟨r5, 0, none⟩ = some (.slice a6 SB.length c6) ∧ w6.cell? ⟨r5, 1, none⟩ = some (.slice b6 MB.length d6) ∧ w6.cell? ⟨r5, 2, none⟩ = some (.int .i64 0)) := Lib.hid ⟨(T6.out.1.1.cell 0).trans rfl, (T6.out.1.1.cell 1).trans rfl, (T6.out.1.1.cell 2).trans rfl, (T6.out.1.2.cell 0).trans rfl, (T6.out.1.2.cell 1).trans rfl, (T6.out.1.2.cell 2).trans rfl⟩; have hz6 : B0 ≤ w6.heap.size := Nat.le_trans hz0 hb.size; clear hd hb)
        | ((with_reducible refine (HPB.out a6 b6 c6 d6 w6 B0 hz6 T6.out.2.1 T6.out.2.2).mono ?_); rintro e w7 ⟨A7, C7, rfl, hd, hb⟩; have B7 := Lib.hid (below_step B6.out hb); have R7 := Lib.hid (And.intro (T6.out.1.1.later hb T6.out.1.1.lt) (T6.out.1.2.later hb T6.out.1.2.lt)); have Q7 : Hid (w7.cell? ⟨r4, 0, none⟩ = some (.slice a5 SA.length c5) ∧ w7.cell? ⟨r4, 1, none⟩ = some (.slice b5 MA.length d5) ∧ w7.cell? ⟨r4, 2, none⟩ = some (.int .i64 0) ∧ w7.cell? ⟨r5, 0, none⟩ = some (.slice a6 SB.length c6) ∧ w7.cell? ⟨r5, 1, none⟩ = some (.slice b6 MB.length d6) ∧ w7.cell? ⟨r5, 2, none⟩ = some (.int .i64 0)) := Lib.hid ⟨(R7.out.1.cell 0).trans rfl, (R7.out.1.cell 1).trans rfl, (R7.out.1.cell 2).trans rfl, (R7.out.2.cell 0).trans rfl, (R7.out.2.cell 1).trans rfl, (R7.out.2.cell 2).trans rfl⟩; obtain ⟨us, g1, g2, g3⟩ := hd; obtain ⟨vs, k1, k2, k3⟩ := D6.out.later hb; have DA := Lib.hid (And.intro (And.intro k1 k2) k3); have DB := Lib.hid (And.intro (And.intro g1 g2) g3); have K1 : Hid (vs.length = PA.length * 3) := Lib.hid k3.1; have K2 : Hid (us.length = PB.length * 3) := Lib.hid g3.1; have K3 := Lib.hid g1.at; have K4 := Lib.hid g3.one'; have K5 := Lib.hid B7.out.size; clear g1 g2 g3 k1 k2 k3 hb)
        | ((with_reducible refine step_append_wide rfl (.tmp 51) (.tmp 53) 33 33 rfl wc.drew.heap.size 24 i0 _ 56 3 Tryz.underlying33 Tryz.underlying33 hi0 hz0' hz1 (by decide) hz2 Hzc.out A6 PA.length C6 vs rfl K1.out DA.out.1.2 DA.out.1.1 A7 PB.length C7 us rfl K2.out K3.out K4.out (by omega) (by omega) K5.out ?_); intro A8 C8 w8 hle hO hT hA; have HO := Lib.hid hO; have HT8 := Lib.hid hT; have Hle := Lib.hid hle; have Q8 : Hid (w8.cell? ⟨r4, 0, none⟩ = some (.slice a5 SA.length c5) ∧ w8.cell? ⟨r4, 1, none⟩ = some (.slice b5 MA.length d5) ∧ w8.cell? ⟨r4, 2, none⟩ = some (.int .i64 0) ∧ w8.cell? ⟨r5, 0, none⟩ = some (.slice a6 SB.length c6) ∧ w8.cell? ⟨r5, 1, none⟩ = some (.slice b6 MB.length d6) ∧ w8.cell? ⟨r5, 2, none⟩ = some (.int .i64 0)) := Lib.hid (by
            have n4 : ∀ x, A6 = some x → x.block ≠ r4 := fun x hx e => by have h1 := (DA.out.1.1.lt hx).1; have h2 := T0.out.1.1.lt; omega
            have n5 : ∀ x, A6 = some x → x.block ≠ r5 := fun x hx e => by have h1 := (DA.out.1.1.lt hx).1; have h2 := T0.out.1.2.lt; omega
            have u4 := R7.out.1.turned hT n4
            have u5 := R7.out.2.turned hT n5
            exact ⟨(u4.cell 0).trans rfl, (u4.cell 1).trans rfl, (u4.cell 2).trans rfl, (u5.cell 0).trans rfl, (u5.cell 1).trans rfl, (u5.cell 2).trans rfl⟩); clear hO hT hA hle))
    go_wp2_with fail
    go_ret
    have hz8 : w.heap.size ≤ wc.drew.heap.size := Hb0.out.size
    exact ⟨A8, C8, rfl, ⟨_, HO.out.mono hz8, by rw [List.length_append]; exact Hle.out, ((DA.out.2.append DB.out.2).turned (show (24 : TypeId) ≠ 3 from by decide) hz0 DA.out.1.1 HT8.out)⟩, Hb0.out.trans ((B7.out.trans (HT8.out.below B7.out.size fun x hx => (DA.out.1.1.lt hx).1)).mono hz8)⟩
theorem prime_any : ∀ (n : Nat) (S M : List Int) (L : Int), S.length ≤ n → vldB S M L = true → PrimeAt S M L := fun n => by
  induction n with
  | zero =>
    intro S M L hn hv
    cases h : cutsL S M with
    | nil => exact prime_leaf S M L hv h
    | cons p l => have := (fac_cuts0 hv h).2.2.2.1; omega
  | succ n ih =>
    intro S M L hn hv
    cases h : cutsL S M with
    | nil => exact prime_leaf S M L hv h
    | cons p l =>
      obtain ⟨_, va, vb, la, lb⟩ := fac_cuts0 hv h
      exact prime_fork S M L hv p l h (ih _ _ _ (by omega) va) (ih _ _ _ (by omega) vb)
end Go.Proofs.YtmjoijfafachhaaGreatDoor


namespace Go.Proofs.YtmjoijfafachhaaGreatDoor
open Go Go.RowKit
theorem split_valid {S M : List Int} {L : Int} (hv : vldB S M L = true) : ∀ d ∈ splitL S M L, vldB d.1 d.2.1 d.2.2 = true := fun d hd => by
  unfold splitL at hd
  rcases List.mem_append.1 hd with h | h
  · obtain ⟨G, hG, rfl⟩ := List.mem_map.1 h
    exact part_valid hv (grp_whole (vldB_shape hv).mates hG).1 (Int.le_refl _) (by show (0 : Int) ≤ 64; omega)
  · obtain ⟨_, rfl⟩ := List.mem_replicate.1 h
    decide +kernel
theorem split_len {S M : List Int} {L : Int} (hv : vldB S M L = true) : (splitL S M L).length ≤ 128 := by
  have hs := vldB_shape hv
  have h1 := grp_len M S.length
  have h2 := hs.few
  have h3 := hs.hi
  unfold splitL
  rw [List.length_append, List.length_map, List.length_replicate]; omega
theorem primesL_take {ds : List Dgm} {i : Nat} (h : i < ds.length) : primesL (ds.take (i + 1)) = primesL (ds.take i) ++ primeL (ds.getD i ([], [], 0)).1 (ds.getD i ([], [], 0)).2.1 (ds.getD i ([], [], 0)).2.2 := by
  unfold primesL
  rw [List.take_add_one, getD_some (d := ([], [], 0)) h, List.flatMap_append]
  simp
theorem primesL_len {ds : List Dgm} (hv : ∀ d ∈ ds, vldB d.1 d.2.1 d.2.2 = true) : ∀ i, i ≤ ds.length → (primesL (ds.take i)).length ≤ 64 * i := fun i => by
  induction i with
  | zero => intro _; simp [primesL]
  | succ i ih =>
    intro hi
    have h1 := ih (by omega)
    have h2 := primeL_len (hv (ds.getD i ([], [], 0)) (by rw [List.getD_eq_getElem?_getD, List.getElem?_eq_getElem (by omega)]; exact List.getElem_mem _))
    rw [primesL_take (by omega), List.length_append]; omega
set_option maxRecDepth 100000 in
set_option maxHeartbeats 4000000 in
theorem factors_yes (S M : List Int) (L : Int) (aS aM : Option Addr) (cS cM : Nat) (w : World) (B0 : Nat) (hB0 : B0 ≤ w.heap.size) (hv : vldB S M L = true) (hS : IntsAt w aS S) (hM : IntsAt w aM M) :
    Calls Tryz.prog 9 #[.agg #[.slice aS S.length cS, .slice aM M.length cM, .int .i64 L]] w fun e w' => ∃ A C, e = .returned (.slice A (factorsL S M L).length C) ∧ DLO w' w.heap.size B0 A C (factorsL S M L) ∧ Below w.heap.size w w' := by
  have HSp : Hid (∀ W', Below w.heap.size w W' → Calls Tryz.prog 18 #[.agg #[.slice aS S.length cS, .slice aM M.length cM, .int .i64 L]] W' fun e w' => ∃ A C, e = .returned (.slice A (splitL S M L).length C) ∧ DLO w' W'.heap.size B0 A C (splitL S M L) ∧ Below W'.heap.size W' w') := Lib.hid fun W' h => (split_any S M L aS aM cS cM W' hv (hS.later h) (hM.later h) B0).mono fun e w' ⟨A, C, he, hd, hb⟩ => ⟨A, C, he, hd (Nat.le_trans hB0 h.size), hb⟩
  have hsv := split_valid hv
  have hsl := split_len hv
  have hpl := primesL_len hsv
  have HPr : Hid (∀ i, i < (splitL S M L).length → PrimeAt ((splitL S M L).getD i ([], [], 0)).1 ((splitL S M L).getD i ([], [], 0)).2.1 ((splitL S M L).getD i ([], [], 0)).2.2) := Lib.hid fun i hi => prime_any _ _ _ _ (Nat.le_refl _) (hsv _ (by rw [List.getD_eq_getElem?_getD, List.getElem?_eq_getElem hi]; exact List.getElem_mem _))
  unfold factorsL
  have H0 := Lib.hid ((HH.start w).alloc #[.slice aS S.length cS, .slice aM M.length cM, .int .i64 L] 24 rfl rfl)
  clear hv hS hM hsv
  generalize splitL S M L = T at *
  obtain ⟨i0, hi0, hz0, hz1, hz2⟩ := info_parts Tryz.info24
  have Hzc : Hid ((Value.agg #[.slice none 0 0, .slice none 0 0, .int .i64 0]).cells.size = 3) := Lib.hid rfl
  have Hpl : Hid (∀ i, i ≤ T.length → (primesL (T.take i)).length ≤ 64 * i) := Lib.hid hpl
  have hpT := hpl T.length (Nat.le_refl _)
  rw [List.take_of_length_le (Nat.le_refl _)] at hpT
  clear hpl
  go_enter Tryz.func9, Tryz.ntmps9
  go_wp2_with fail
  refine (HSp.out _ H0.out.below).mono ?_
  rintro e w1 ⟨A1, C1, rfl, ⟨vsT, hoT, _, hcT⟩, hb⟩
  have H1 := Lib.hid ((H0.out.addSl hb hoT).addNil 24)
  have HD := Lib.hid hcT
  clear hcT hoT hb H0 HSp
  go_wp2_with fail
  go_loopg [9, 3] T.length (fun g v s3 wr => ∃ (i : Nat) (A : Option Addr) (C : Nat) (vs : List Value), i ≤ T.length ∧ g = T.length - i ∧ v = .int .i64 i ∧ s3 = .slice A (primesL (T.take i)).length C ∧ (primesL (T.take i)).length ≤ C ∧ CellsOf wr B0 vsT T ∧ CellsOf wr B0 vs (primesL (T.take i)) ∧ HH w wr [(w.heap.size, rowO 24 [.slice aS S.length cS, .slice aM M.length cM, .int .i64 L])] [⟨A1, C1 * 3, 24, vsT⟩, ⟨A, C * 3, 24, vs⟩])
  case atStart => exact ⟨0, none, 0, [], Nat.zero_le _, rfl, rfl, rfl, Nat.le_refl _, HD.out, CellsOf.nil _ _, H1.out⟩
  case round =>
    obtain ⟨i, A, C, vs, hi, rfl, rfl, rfl, hiC, hd, hc, hh⟩ := hrel
    replace HD := Lib.hid hd
    have HCl := Lib.hid hc
    have Hh := Lib.hid hh
    clear hd hc hh H1
    have hli := Hpl.out i hi
    by_cases hil : i < T.length
    · obtain ⟨b1, o1, rfl, _, _, hrow, _⟩ := (Hh.out.sl (k := 0) rfl).open (Nat.lt_of_lt_of_le (show 0 < T.length * 3 by omega) (Nat.le_of_eq HD.out.1.symm))
      have hrow : ∀ j v, vsT[j]? = some v → wr.cell? ⟨b1, o1 + j, none⟩ = some v := hrow
      obtain ⟨a', c', b', e', g1, g2, g3, t1, t2⟩ := HD.out.2 i _ (getD_some (d := ([], [], 0)) hil)
      have q1 := hrow _ _ g1
      have q2 := hrow _ _ g2
      have q3 := hrow _ _ g3
      rw [← Nat.add_assoc] at q2 q3
      have HTi := Lib.hid (primesL_take hil)
      have HPi := Lib.hid (HPr.out i hil)
      have hli1 := Hpl.out (i + 1) (by omega)
      rw [HTi.out, List.length_append] at hli1
      generalize T.getD i ([], [], 0) = Ti at *
      obtain ⟨Si, Mi, Li⟩ := Ti
      dsimp only at *
      have HT := Lib.hid (And.intro t1 t2)
      clear hrow t1 t2 g1 g2 g3
      go_wp2_with fail
      have bA : Below wr.heap.size wr (wr.alloc (.cells #[.slice a' Si.length c', .slice b' Mi.length e', .int .i64 Li] 24)) := (Below.refl _ _).alloc (Nat.le_refl _) _
      have Ha := Lib.hid (Hh.out.call bA)
      have hB1 : B0 ≤ (wr.alloc (.cells #[.slice a' Si.length c', .slice b' Mi.length e', .int .i64 Li] 24)).heap.size := Nat.le_trans hB0 Ha.out.below.size
      have HD1 := Lib.hid (HD.out.later bA)
      have HC1 := Lib.hid (HCl.out.later bA)
      have HT1 := Lib.hid (And.intro (HT.out.1.later bA) (HT.out.2.later bA))
      clear bA q1 q2 q3
      refine (HPi.out a' b' c' e' _ B0 hB1 HT1.out.1 HT1.out.2).mono ?_
      rintro e w5 ⟨A5, C5, rfl, hd5, hb⟩
      have H5 := Lib.hid (Ha.out.call hb)
      have HD5 := Lib.hid (HD1.out.later hb)
      have HC5 := Lib.hid (HC1.out.later hb)
      obtain ⟨us, g1, g2, g3⟩ := hd5
      have K1 : Hid (vs.length = (primesL (T.take i)).length * 3) := Lib.hid HC5.out.1
      have K2 : Hid (us.length = (primeL Si Mi Li).length * 3) := Lib.hid g3.1
      have K3 := Lib.hid g1.at
      have K4 := Lib.hid g3.one'
      have K5 := Lib.hid H5.out.below.size
      have HU := Lib.hid g3
      clear g1 g2 g3 hb Ha HD1 HC1 HT1 HT hB1 Hh HD HCl
      generalize primeL Si Mi Li = Pi at *
      obtain ⟨Ti, hTi⟩ : ∃ Ti, Ti = primesL (T.take i) := ⟨_, rfl⟩
      rw [← hTi] at hiC hli hli1 HC5 K1 HTi ⊢
      have HTe := Lib.hid hTi
      clear hTi
      have hsl' : Ti.length ≤ 64 * 128 := by omega
      have hsm' : Ti.length + Pi.length ≤ 64 * 129 := by omega
      go_wp2_with (with_reducible refine wpList_append_wide rfl (.tmp 13) (.tmp 15) 33 33 rfl w.heap.size 24 i0 _ 56 3 Tryz.underlying33 Tryz.underlying33 hi0 hz0 hz1 (by decide) hz2 Hzc.out A Ti.length C vs rfl K1.out hiC (H5.out.sl (k := 1) rfl) A5 Pi.length C5 us rfl K2.out K3.out K4.out (by omega) (by omega) K5.out ?_; intro A7 e7 w7 hle hO7 hT7 hA7; have HO7 := Lib.hid hO7; have HT7 := Lib.hid hT7; have HA7 := Lib.hid hA7; have Hle := Lib.hid hle; clear hO7 hT7 hA7 hle)
      have H7 := Lib.hid (H5.out.grow (k := 1) rfl HO7.out HT7.out HA7.out)
      have HD7 := Lib.hid (HD5.out.turned (show (24 : TypeId) ≠ 3 from by decide) hB0 (H5.out.sl (k := 1) rfl) HT7.out)
      have HC7 := Lib.hid ((HC5.out.append HU.out).turned (show (24 : TypeId) ≠ 3 from by decide) hB0 (H5.out.sl (k := 1) rfl) HT7.out)
      go_roundg (T.length - (i + 1))
      case measure => omega
      case rel =>
        refine ⟨i + 1, A7, e7, _, by omega, rfl, by go_num, by rw [HTi.out, List.length_append], ?_, HD7.out, ?_, H7.out⟩
        · rw [HTi.out, List.length_append]; exact Hle.out
        · rw [HTi.out]; exact HC7.out
    · obtain rfl : i = T.length := by omega
      rw [List.take_of_length_le (Nat.le_refl _)] at *
      go_wp2_with fail
      go_ret
      exact ⟨A, C, rfl, ⟨vs, Hh.out.sl (k := 1) rfl, hiC, HCl.out⟩, Hh.out.below⟩
end Go.Proofs.YtmjoijfafachhaaGreatDoor


