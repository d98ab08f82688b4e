/- connect.Cuts: the pairs of edges that are cuts. -/
import Derived.WalkKit
import Derived.WalkSpells
import Derived.WalkLawsBesides
import Derived.Deep.AppendSrc
import Derived.Deep.LoopGhost
import Derived.Deep.QuietTactic
import Derived.Deep.RegionWith
import Derived.Deep.DeepMust
import Derived.Deep.DeepFit
import Derived.BigQuiet
import Derived.Lib.Hide
import Derived.Outline
import Derived.Test.YtmjoijfafachhaaGreatDoorProg
import Derived.Deep.Matrix
import Derived.Deep.DeepCutAuto
import Derived.Deep.RegionLaw
import Derived.Deep.RegionHeld3
import Derived.Test.YtmjoijfafachhaaGreatDoorZuAa
import Derived.Test.YtmjoijfafachhaaGreatDoorZuAb
import Derived.Test.YtmjoijfafachhaaGreatDoorZuAc
import Derived.Test.YtmjoijfafachhaaGreatDoorZuAd
import Derived.Test.YtmjoijfafachhaaGreatDoorZuAe
import Derived.Test.YtmjoijfafachhaaGreatDoorZuAf
import Derived.Test.YtmjoijfafachhaaGreatDoorZuAg
import Derived.Test.YtmjoijfafachhaaGreatDoorZuAh
import Derived.Test.YtmjoijfafachhaaGreatDoorZuAj
import Derived.Test.YtmjoijfafachhaaGreatDoorZuAk
import Derived.Test.YtmjoijfafachhaaGreatDoorZuAl
namespace Go.Proofs.YtmjoijfafachhaaGreatDoor
open Go Go.RowKit
/-- Are x and y a cut? -/
def cutB (S F : List Int) (M : List Int) (x y : Nat) : Bool := outB S x && outB S y && (nth F x == nth F y) && (nth F (mt M x) == nth F (mt M y))
/-- The cuts of x with those from x + 1 to y - 1. -/
def cutRow (S F M : List Int) (x y : Nat) : List (Nat × Nat) := ((List.range y).filter fun z => decide (x < z) && cutB S F M x z).map fun z => (x, z)
def cutTo (S F M : List Int) (N : Nat) : Nat → List (Nat × Nat)
  | 0 => []
  | x + 1 => cutTo S F M N x ++ cutRow S F M x N
/-- All cuts. -/
def cutsL (S M : List Int) : List (Nat × Nat) := cutTo S (leftL M S.length) M (4 * S.length) (4 * S.length)
def prs (l : List (Nat × Nat)) : List Value := l.flatMap fun p => [.int .i64 (p.1 : Int), .int .i64 (p.2 : Int)]
theorem prs_len (l : List (Nat × Nat)) : (prs l).length = l.length * 2 := by
  induction l with
  | nil => rfl
  | cons p l ih => show (_ :: _ :: prs l).length = _; simp only [List.length_cons]; omega
theorem prs_snoc (l : List (Nat × Nat)) (x y : Nat) : prs l ++ [.int .i64 (x : Int), .int .i64 (y : Int)] = prs (l ++ [(x, y)]) := by unfold prs; rw [List.flatMap_append]; rfl
theorem cutRow_len (S F M : List Int) (x y : Nat) : (cutRow S F M x y).length ≤ y := by
  unfold cutRow; rw [List.length_map]
  have := List.length_filter_le (fun z => decide (x < z) && cutB S F M x z) (List.range y)
  rwa [List.length_range] at this
theorem cutTo_len (S F M : List Int) (N : Nat) : ∀ x, (cutTo S F M N x).length ≤ x * N := fun x => by
  induction x with
  | zero => simp [cutTo]
  | succ x ih =>
    show (cutTo S F M N x ++ cutRow S F M x N).length ≤ _
    have := cutRow_len S F M x N
    rw [List.length_append, Nat.add_mul]; omega
theorem cutRow_yes {S F M : List Int} {x y : Nat} (h : x < y) (hc : cutB S F M x y = true) : cutRow S F M x (y + 1) = cutRow S F M x y ++ [(x, y)] := by
  unfold cutRow; rw [List.range_succ, List.filter_append, List.map_append]; simp [h, hc]
theorem cutRow_no {S F M : List Int} {x y : Nat} (hc : cutB S F M x y = false) : cutRow S F M x (y + 1) = cutRow S F M x y := by
  unfold cutRow; rw [List.range_succ, List.filter_append, List.map_append]; simp [hc]
theorem cutRow_start (S F M : List Int) (x : Nat) : cutRow S F M x (x + 1) = [] := by
  unfold cutRow
  have : (List.range (x + 1)).filter (fun z => decide (x < z) && cutB S F M x z) = [] := by
    rw [List.filter_eq_nil_iff]
    intro z hz
    have := List.mem_range.1 hz
    rw [decide_eq_false (by omega)]; simp
  rw [this]; rfl
theorem cutRow_out {S F M : List Int} {x : Nat} (h : outB S x = false) (y : Nat) : cutRow S F M x y = [] := by
  unfold cutRow
  have : (List.range y).filter (fun z => decide (x < z) && cutB S F M x z) = [] := by
    rw [List.filter_eq_nil_iff]
    intro z _
    unfold cutB; rw [h]; simp
  rw [this]; rfl
set_option maxRecDepth 100000 in
set_option maxHeartbeats 16000000 in
theorem cuts_yes (S M : List Int) (L : Int) (aS aM : Option Addr) (cS cM : Nat) (w : World) (hv : vldB S M L = true) (hS : IntsAt w aS S) (hM : IntsAt w aM M) :
    Calls Tryz.prog 12 #[.agg #[.slice aS S.length cS, .slice aM M.length cM, .int .i64 L]] w fun e w' => ∃ A C, e = .returned (.slice A (cutsL S M).length C) ∧ (cutsL S M).length ≤ C ∧ Own w' w.heap.size 41 A (C * 2) (prs (cutsL S M)) ∧ Below w.heap.size w w' := by
  have hs := vldB_shape hv
  have hfw := hs.few
  have HV : Hid (∀ W', Below w.heap.size w W' → Calls Tryz.prog 15 #[.agg #[.slice aS S.length cS, .slice aM M.length cM, .int .i64 L]] W' fun e w' => e = .returned (.bool true) ∧ Below W'.heap.size W' w') := Lib.hid fun W' h => by
    have g := valid_any S M L aS aM cS cM W' (by omega) (by rw [hs.len]; omega) (hS.later h) (hM.later h)
    rw [hv] at g; exact g
  have HF : Hid (∀ W', Below w.heap.size w W' → Calls Tryz.prog 23 #[.agg #[.slice aS S.length cS, .slice aM M.length cM, .int .i64 L]] W' fun e w' => ∃ a c, e = .returned (.slice a (4 * S.length) c) ∧ Own w' W'.heap.size 3 a c (ints (leftL M S.length)) ∧ Below W'.heap.size W' w') := Lib.hid fun W' h => left_any S M L aS aM cS cM W' hv (hS.later h) (hM.later h)
  have HO : Hid (∀ h W', h < 4 * S.length → Below w.heap.size w W' → Calls Tryz.prog 24 #[.agg #[.slice aS S.length cS, .slice aM M.length cM, .int .i64 L], .int .i64 (h : Int)] W' fun e w' => e = .returned (.bool (outB S h)) ∧ Below W'.heap.size W' w') := Lib.hid fun h W' hh hb => coutgoing_any S M L aS aM cS cM h W' hh (by omega) (hS.later hb)
  have HMt : Hid (∀ x, x < 4 * S.length → ∃ p : Nat, p < 4 * S.length ∧ nth M x = (p : Int) ∧ mt M x = p) := Lib.hid fun x hx => by
    have := hs.range x hx
    exact ⟨mt M x, hs.mt_lt hx, by unfold mt; omega, rfl⟩
  have HM := Lib.hid hM
  have hml := hs.len
  have hFl : (leftL M S.length).length = 4 * S.length := leftTo_len _ _ _
  have HCL : Hid (cutsL S M = cutTo S (leftL M S.length) M (4 * S.length) (4 * S.length)) := Lib.hid rfl
  rw [HCL.out]
  clear HCL
  rw [← hml] at HF HO HMt hFl ⊢
  obtain ⟨i0, hi0, hz0, hz1, hz2⟩ := info_parts Tryz.info41
  have Hzc : Hid ((Value.agg #[.int .i64 0, .int .i64 0]).cells.size = 2) := Lib.hid rfl
  have hN : M.length ≤ 256 := by omega
  have H0 := Lib.hid ((HH.start w).alloc #[.slice aS S.length cS, .slice aM M.length cM, .int .i64 L] 24 rfl rfl)
  have HMl := Lib.hid (show M.length = M.length from rfl)
  clear hs hv hS hM hml
  generalize leftL M S.length = F at *
  have Hbd : Hid (∀ x, (cutTo S F M M.length x).length ≤ x * M.length) := Lib.hid (cutTo_len S F M M.length)
  have Hrw : Hid (∀ x y, (cutRow S F M x y).length ≤ y) := Lib.hid (cutRow_len S F M)
  obtain ⟨N, hNe⟩ : ∃ N, N = M.length := ⟨_, rfl⟩
  have HNe := Lib.hid hNe
  rw [← hNe] at HV HF HO HMt hFl H0 Hbd hN ⊢
  clear hNe HMl
  generalize hn : S.length = n at *
  clear hn
  go_enter Tryz.func12, Tryz.ntmps12
  go_wp2_with fail
  refine (HV.out _ H0.out.below).mono ?_
  rintro e w1 ⟨rfl, hb⟩
  have H1 := Lib.hid (H0.out.call hb)
  clear hb H0 HV
  have k0 := H1.out.cell (k := 0) (i := 0) rfl rfl
  have k1 := H1.out.cell (k := 0) (i := 1) rfl rfl
  have k2 := H1.out.cell (k := 0) (i := 2) rfl rfl
  go_wp2_with fail
  clear k0 k1 k2
  refine (HF.out _ H1.out.below).mono ?_
  rintro e w2 ⟨aF, cF, rfl, ho, hb⟩
  have H2 := Lib.hid ((H1.out.addSl hb ho).addNil 41)
  clear hb ho H1 HF
  have k1 := H2.out.cell (k := 0) (i := 1) rfl rfl
  go_wp2_with fail
  clear k1
  go_loopg [15, 4] N (fun g v s4 wr => ∃ (x : Nat) (A : Option Addr) (C : Nat) (l : List (Nat × Nat)), x ≤ N ∧ g = N - x ∧ v = .int .i64 x ∧ s4 = .slice A l.length C ∧ l.length ≤ C ∧ l = cutTo S F M N x ∧ HH w wr [(w.heap.size, rowO 24 [.slice aS n cS, .slice aM N cM, .int .i64 L])] [⟨aF, cF, 3, ints F⟩, ⟨A, C * 2, 41, prs l⟩])
  case atStart => exact ⟨0, none, 0, [], Nat.zero_le _, rfl, rfl, rfl, Nat.le_refl _, rfl, H2.out⟩
  case round =>
    obtain ⟨x, A, C, l, hx, rfl, rfl, rfl, hlC, hl, hh⟩ := hrel
    have Hh := Lib.hid hh
    have Hl := Lib.hid hl
    clear hh hl H2
    obtain ⟨ll, hll⟩ : ∃ ll, ll = l.length := ⟨_, rfl⟩
    rw [← hll] at hlC ⊢
    have Hll := Lib.hid hll
    have hlb : ll ≤ x * N := by rw [hll, Hl.out]; exact Hbd.out x
    clear hll
    by_cases hxN : x < N
    · have hxx : x * N ≤ 256 * 256 := Nat.mul_le_mul (by omega) hN
      have k0 := Hh.out.cell (k := 0) (i := 0) rfl rfl
      have k1 := Hh.out.cell (k := 0) (i := 1) rfl rfl
      have k2 := Hh.out.cell (k := 0) (i := 2) rfl rfl
      have HOx := Lib.hid (HO.out x wr hxN Hh.out.below)
      go_wp2_with fail
      cases hox : outB S x
      · rw [hox] at HOx
        refine HOx.out.mono ?_
        rintro e w3 ⟨rfl, hb⟩
        have H3 := Lib.hid (Hh.out.call hb)
        have Hn : Hid (cutTo S F M N (x + 1) = cutTo S F M N x) := Lib.hid (by show cutTo S F M N x ++ cutRow S F M x N = _; rw [cutRow_out hox, List.append_nil])
        clear hb k0 k1 k2
        go_wp2_with fail
        go_roundg (N - (x + 1))
        case measure => omega
        case rel => exact ⟨x + 1, A, C, l, by omega, rfl, by go_num, by rw [Hll.out], by rw [← Hll.out]; exact hlC, by rw [Hn.out]; exact Hl.out, H3.out⟩
      · rw [hox] at HOx
        refine HOx.out.mono ?_
        rintro e w3 ⟨rfl, hb⟩
        have H3 := Lib.hid (Hh.out.call hb)
        have Hrs : Hid (cutTo S F M N x ++ cutRow S F M x (x + 1) = l) := Lib.hid (by rw [cutRow_start, List.append_nil]; exact Hl.out.symm)
        have Hre : Hid (cutTo S F M N (x + 1) = cutTo S F M N x ++ cutRow S F M x N) := Lib.hid rfl
        obtain ⟨T0, hT0⟩ : ∃ T0, T0 = cutTo S F M N x := ⟨_, rfl⟩
        have hT0l : T0.length ≤ 256 * 256 := by rw [hT0]; have := Hbd.out x; omega
        rw [← hT0] at Hrs Hre
        clear hb k0 k1 k2 hT0
        go_wp2_with fail
        go_loopg [6, 4] (N - (x + 1)) (fun g v s4 wr => ∃ (y : Nat) (A : Option Addr) (C : Nat) (l : List (Nat × Nat)), x < y ∧ y ≤ N ∧ g = N - y ∧ v = .int .i64 y ∧ s4 = .slice A l.length C ∧ l.length ≤ C ∧ T0 ++ cutRow S F M x y = l ∧ HH w wr [(w.heap.size, rowO 24 [.slice aS n cS, .slice aM N cM, .int .i64 L])] [⟨aF, cF, 3, ints F⟩, ⟨A, C * 2, 41, prs l⟩])
        case atStart => exact ⟨x + 1, A, C, l, by omega, by omega, rfl, by go_num, by rw [Hll.out], by rw [← Hll.out]; exact hlC, Hrs.out, H3.out⟩
        case round =>
          obtain ⟨y, A, C, l, hxy, hy, rfl, rfl, rfl, hlC, hl, hh⟩ := hrel
          replace Hh := Lib.hid hh
          replace Hl := Lib.hid hl.symm
          clear hh hl H3
          obtain ⟨ll, hll⟩ : ∃ ll, ll = l.length := ⟨_, rfl⟩
          rw [← hll] at hlC ⊢
          replace Hll := Lib.hid hll
          have hlb : ll ≤ 256 * 256 + 256 := by
            have := Hrw.out x y
            rw [hll, Hl.out, List.length_append]; omega
          have Hvl : Hid ((prs l).length = ll * 2) := Lib.hid (by rw [prs_len, hll])
          clear hll
          by_cases hyN : y < N
          · obtain ⟨p, hp, hpv, hpm⟩ := HMt.out x hxN
            obtain ⟨q, hq, hqv, hqm⟩ := HMt.out y hyN
            obtain ⟨bM, oM, rfl, _, hcM⟩ := (HM.out.later Hh.out.below).open (by rw [← HNe.out]; omega)
            clear hcM
            obtain ⟨bF, oF, rfl, _, _, _, _⟩ := (Hh.out.sl (k := 0) rfl).open (by show 0 < (ints F).length; rw [ints_length]; omega)
            have hcb : cutB S F M x y = (outB S y && (nth F x == nth F y) && (nth F p == nth F q)) := by unfold cutB; rw [hox, hpm, hqm]; simp
            have HYes := Lib.hid (cutRow_yes (S := S) (F := F) (M := M) hxy)
            have HNo := Lib.hid (cutRow_no (S := S) (F := F) (M := M) (x := x) (y := y))
            rw [hcb] at HYes HNo
            clear hcb
            have HOy : Hid (∀ W', HH w W' [(w.heap.size, rowO 24 [.slice aS n cS, .slice (some ⟨bM, oM, none⟩) N cM, .int .i64 L])] [⟨some ⟨bF, oF, none⟩, cF, 3, ints F⟩, ⟨A, C * 2, 41, prs l⟩] → Calls Tryz.prog 24 #[.agg #[.slice aS n cS, .slice (some ⟨bM, oM, none⟩) N cM, .int .i64 L], .int .i64 (y : Int)] W' fun e w' => e = .returned (.bool (outB S y)) ∧ HH w w' [(w.heap.size, rowO 24 [.slice aS n cS, .slice (some ⟨bM, oM, none⟩) N cM, .int .i64 L])] [⟨some ⟨bF, oF, none⟩, cF, 3, ints F⟩, ⟨A, C * 2, 41, prs l⟩]) := Lib.hid fun W' h => (HO.out y W' hyN h.below).mono fun e w' ⟨he, hb⟩ => ⟨he, h.call hb⟩
            have HKS : Hid (∀ (W' : World) (z : List SlO), HH w W' [(w.heap.size, rowO 24 [.slice aS n cS, .slice (some ⟨bM, oM, none⟩) N cM, .int .i64 L])] (⟨some ⟨bF, oF, none⟩, cF, 3, ints F⟩ :: z) → W'.cell? ⟨w.heap.size, 0, none⟩ = some (.slice aS n cS) ∧ W'.cell? ⟨w.heap.size, 1, none⟩ = some (.slice (some ⟨bM, oM, none⟩) N cM) ∧ W'.cell? ⟨w.heap.size, 2, none⟩ = some (.int .i64 L) ∧ W'.cell? ⟨bM, oM + x, none⟩ = some (.int .i64 (p : Int)) ∧ W'.cell? ⟨bM, oM + y, none⟩ = some (.int .i64 (q : Int)) ∧ W'.cell? ⟨bF, oF + x, none⟩ = some (.int .i64 (nth F x)) ∧ W'.cell? ⟨bF, oF + y, none⟩ = some (.int .i64 (nth F y)) ∧ W'.cell? ⟨bF, oF + p, none⟩ = some (.int .i64 (nth F p)) ∧ W'.cell? ⟨bF, oF + q, none⟩ = some (.int .i64 (nth F q))) := Lib.hid fun W' z h => by
              obtain ⟨b9, o9, e9, _, _, hc9, _⟩ := (h.sl (k := 0) rfl).open (by show 0 < (ints F).length; rw [ints_length]; omega)
              cases e9
              obtain ⟨b8, o8, e8, _, hc8⟩ := (HM.out.later h.below).open (by rw [← HNe.out]; omega)
              cases e8
              have m1 := hc8 x (by rw [← HNe.out]; exact hxN)
              have m2 := hc8 y (by rw [← HNe.out]; exact hyN)
              rw [hpv] at m1
              rw [hqv] at m2
              exact ⟨h.cell (k := 0) (i := 0) rfl rfl, h.cell (k := 0) (i := 1) rfl rfl, h.cell (k := 0) (i := 2) rfl rfl, m1, m2, hc9 _ _ (ints_get F x (by omega)), hc9 _ _ (ints_get F y (by omega)), hc9 _ _ (ints_get F p (by omega)), hc9 _ _ (ints_get F q (by omega))⟩
            have k1 := Hh.out.cell (k := 0) (i := 1) rfl rfl
            have Hum : Hid (([.int .i64 (x : Int), .int .i64 (y : Int)] : List Value).length = 1 * 2) := Lib.hid rfl
            have Hu1 : Hid (∀ u ∈ ([.int .i64 (x : Int), .int .i64 (y : Int)] : List Value), u.oneCell' = true) := Lib.hid (by
              intro u hu
              simp only [List.mem_cons, List.not_mem_nil, or_false] at hu
              rcases hu with rfl | rfl <;> rfl)
            clear hpv hqv hpm hqm
            generalize nth F x = fx at *
            generalize nth F y = fy at *
            generalize nth F p = fp at *
            generalize nth F q = fq at *
            generalize outB S y = oy at *
            cases oy
            · have HNo := Lib.hid (HNo.out rfl)
              have d1 : decide ((p : Int) < 0) = false := decide_eq_false (by omega)
              have d2 : decide ((q : Int) < 0) = false := decide_eq_false (by omega)
              go_wp2_with fail
              clear k1
              refine wp_region_class (fun W => HH w W [(w.heap.size, rowO 24 [.slice aS n cS, .slice (some ⟨bM, oM, none⟩) N cM, .int .i64 L])] [⟨some ⟨bF, oF, none⟩, cF, 3, ints F⟩, ⟨A, C * 2, 41, prs l⟩]) (by kernel_rfl) (by kernel_rfl) Hh.out.drew ?_
              refine no_implicit_lambda% (wpQuiet_loadRow (.tmp 1) 24 w.heap.size 24 [.slice aS n cS, .slice (some ⟨bM, oM, none⟩) N cM, .int .i64 L] rfl rfl (by kernel_rfl) Tryz.isAgg24 Tryz.sizeOf24 (fun W' h => h.row (k := 0) rfl) ?_)
              simp only [Act.put, List.setIfInBounds_toArray, List.set_cons_succ, List.set_cons_zero]
              refine no_implicit_lambda% (wpQuiet_move (.tmp 6) (.int .i64 (y : Int)) rfl rfl (by kernel_rfl) ?_)
              simp only [Act.put, List.setIfInBounds_toArray, List.set_cons_succ, List.set_cons_zero]
              refine no_implicit_lambda% (wpQuiet_call (.bool false) 24 _ _ [.agg #[.slice aS n cS, .slice (some ⟨bM, oM, none⟩) N cM, .int .i64 L], .int .i64 (y : Int)] rfl rfl (by kernel_rfl) Tryz.call24 (fun W' h => HOy.out W' h) ?_)
              simp only [Act.put, List.setIfInBounds_toArray, List.set_cons_succ, List.set_cons_zero]
              refine no_implicit_lambda% (wpQuiet_move (.tmp 33) (.bool false) rfl rfl (by kernel_rfl) ?_)
              simp only [Act.put, List.setIfInBounds_toArray, List.set_cons_succ, List.set_cons_zero]
              go_big_quiet_skip
              go_big_quiet_skip
              go_big_quiet_skip
              go_big_quiet_skip
              go_big_quiet_skip
              go_big_quiet_skip
              go_big_quiet_skip
              go_big_quiet_skip
              go_big_quiet_skip
              refine no_implicit_lambda% (wpQuiet_val (.bool false) rfl (fun W' hW' => ?_) ?_)
              · go_simp
              simp only [Act.put, List.setIfInBounds_toArray, List.set_cons_succ, List.set_cons_zero]
              refine no_implicit_lambda% (wpQuiet_move (.tmp 44) (.bool false) rfl rfl (by kernel_rfl) ?_)
              simp only [Act.put, List.setIfInBounds_toArray, List.set_cons_succ, List.set_cons_zero]
              go_big_quiet_skip
              go_big_quiet_skip
              go_big_quiet_skip
              go_big_quiet_skip
              go_big_quiet_skip
              go_big_quiet_skip
              go_big_quiet_skip
              go_big_quiet_skip
              go_big_quiet_skip
              go_big_quiet_skip
              go_big_quiet_skip
              go_big_quiet_skip
              go_big_quiet_skip
              go_big_quiet_skip
              go_big_quiet_skip
              go_big_quiet_skip
              go_big_quiet_skip
              refine no_implicit_lambda% (wpQuiet_val (.bool false) rfl (fun W' hW' => ?_) ?_)
              · go_simp
              simp only [Act.put, List.setIfInBounds_toArray, List.set_cons_succ, List.set_cons_zero]
              refine no_implicit_lambda% (wpQuiet_end ?_)
              intro w5 hw5
              have Hx := Lib.hid hw5
              clear hw5
              go_wp2_with fail
              go_roundg (N - (y + 1))
              case measure => omega
              case rel => exact ⟨y + 1, A, C, l, by omega, by omega, rfl, by go_num, by rw [Hll.out], by rw [← Hll.out]; exact hlC, by rw [HNo.out]; exact Hl.out.symm, Hx.out⟩
            · cases t1 : (fx == fy)
              · have HNo := Lib.hid (HNo.out (by simp [t1]))
                have d1 : decide ((p : Int) < 0) = false := decide_eq_false (by omega)
                have d2 : decide ((q : Int) < 0) = false := decide_eq_false (by omega)
                go_wp2_with fail
                clear k1
                refine wp_region_class (fun W => HH w W [(w.heap.size, rowO 24 [.slice aS n cS, .slice (some ⟨bM, oM, none⟩) N cM, .int .i64 L])] [⟨some ⟨bF, oF, none⟩, cF, 3, ints F⟩, ⟨A, C * 2, 41, prs l⟩]) (by kernel_rfl) (by kernel_rfl) Hh.out.drew ?_
                refine no_implicit_lambda% (wpQuiet_loadRow (.tmp 1) 24 w.heap.size 24 [.slice aS n cS, .slice (some ⟨bM, oM, none⟩) N cM, .int .i64 L] rfl rfl (by kernel_rfl) Tryz.isAgg24 Tryz.sizeOf24 (fun W' h => h.row (k := 0) rfl) ?_)
                simp only [Act.put, List.setIfInBounds_toArray, List.set_cons_succ, List.set_cons_zero]
                refine no_implicit_lambda% (wpQuiet_move (.tmp 6) (.int .i64 (y : Int)) rfl rfl (by kernel_rfl) ?_)
                simp only [Act.put, List.setIfInBounds_toArray, List.set_cons_succ, List.set_cons_zero]
                refine no_implicit_lambda% (wpQuiet_call (.bool true) 24 _ _ [.agg #[.slice aS n cS, .slice (some ⟨bM, oM, none⟩) N cM, .int .i64 L], .int .i64 (y : Int)] rfl rfl (by kernel_rfl) Tryz.call24 (fun W' h => HOy.out W' h) ?_)
                simp only [Act.put, List.setIfInBounds_toArray, List.set_cons_succ, List.set_cons_zero]
                refine no_implicit_lambda% (wpQuiet_move (.tmp 33) (.bool true) rfl rfl (by kernel_rfl) ?_)
                simp only [Act.put, List.setIfInBounds_toArray, List.set_cons_succ, List.set_cons_zero]
                refine no_implicit_lambda% (wpQuietW_move (.tmp 3) (.slice (some ⟨bF, oF, none⟩) N cF) (by kernel_rfl) rfl (by kernel_rfl) ?_)
                simp only [Act.put, List.setIfInBounds_toArray, List.set_cons_succ, List.set_cons_zero]
                refine no_implicit_lambda% (wpQuietW_move (.tmp 5) (.int .i64 (x : Int)) (by kernel_rfl) rfl (by kernel_rfl) ?_)
                simp only [Act.put, List.setIfInBounds_toArray, List.set_cons_succ, List.set_cons_zero]
                refine no_implicit_lambda% (wpQuietW_val (.pointer (some ⟨bF, oF + x, none⟩)) (by kernel_rfl) (fun W' hW' => ?_) ?_)
                · obtain ⟨i1, i2, i3, i4, i5, i6, i7, i8, i9⟩ := HKS.out W' _ hW'
                  go_simp
                simp only [Act.put, List.setIfInBounds_toArray, List.set_cons_succ, List.set_cons_zero]
                refine no_implicit_lambda% (wpQuietW_val (.int .i64 fx) (by kernel_rfl) (fun W' hW' => ?_) ?_)
                · obtain ⟨i1, i2, i3, i4, i5, i6, i7, i8, i9⟩ := HKS.out W' _ hW'
                  go_simp
                simp only [Act.put, List.setIfInBounds_toArray, List.set_cons_succ, List.set_cons_zero]
                refine no_implicit_lambda% (wpQuietW_move (.tmp 3) (.slice (some ⟨bF, oF, none⟩) N cF) (by kernel_rfl) rfl (by kernel_rfl) ?_)
                simp only [Act.put, List.setIfInBounds_toArray, List.set_cons_succ, List.set_cons_zero]
                refine no_implicit_lambda% (wpQuietW_move (.tmp 6) (.int .i64 (y : Int)) (by kernel_rfl) rfl (by kernel_rfl) ?_)
                simp only [Act.put, List.setIfInBounds_toArray, List.set_cons_succ, List.set_cons_zero]
                refine no_implicit_lambda% (wpQuietW_val (.pointer (some ⟨bF, oF + y, none⟩)) (by kernel_rfl) (fun W' hW' => ?_) ?_)
                · obtain ⟨i1, i2, i3, i4, i5, i6, i7, i8, i9⟩ := HKS.out W' _ hW'
                  go_simp
                simp only [Act.put, List.setIfInBounds_toArray, List.set_cons_succ, List.set_cons_zero]
                refine no_implicit_lambda% (wpQuietW_val (.int .i64 fy) (by kernel_rfl) (fun W' hW' => ?_) ?_)
                · obtain ⟨i1, i2, i3, i4, i5, i6, i7, i8, i9⟩ := HKS.out W' _ hW'
                  go_simp
                simp only [Act.put, List.setIfInBounds_toArray, List.set_cons_succ, List.set_cons_zero]
                refine no_implicit_lambda% (wpQuietW_val (.bool false) (by kernel_rfl) (fun W' hW' => ?_) ?_)
                · obtain ⟨i1, i2, i3, i4, i5, i6, i7, i8, i9⟩ := HKS.out W' _ hW'
                  go_simp
                simp only [Act.put, List.setIfInBounds_toArray, List.set_cons_succ, List.set_cons_zero]
                refine no_implicit_lambda% (wpQuiet_val (.bool false) rfl (fun W' hW' => ?_) ?_)
                · go_simp
                simp only [Act.put, List.setIfInBounds_toArray, List.set_cons_succ, List.set_cons_zero]
                refine no_implicit_lambda% (wpQuiet_move (.tmp 44) (.bool false) rfl rfl (by kernel_rfl) ?_)
                simp only [Act.put, List.setIfInBounds_toArray, List.set_cons_succ, List.set_cons_zero]
                go_big_quiet_skip
                go_big_quiet_skip
                go_big_quiet_skip
                go_big_quiet_skip
                go_big_quiet_skip
                go_big_quiet_skip
                go_big_quiet_skip
                go_big_quiet_skip
                go_big_quiet_skip
                go_big_quiet_skip
                go_big_quiet_skip
                go_big_quiet_skip
                go_big_quiet_skip
                go_big_quiet_skip
                go_big_quiet_skip
                go_big_quiet_skip
                go_big_quiet_skip
                refine no_implicit_lambda% (wpQuiet_val (.bool false) rfl (fun W' hW' => ?_) ?_)
                · go_simp
                simp only [Act.put, List.setIfInBounds_toArray, List.set_cons_succ, List.set_cons_zero]
                refine no_implicit_lambda% (wpQuiet_end ?_)
                intro w5 hw5
                have Hx := Lib.hid hw5
                clear hw5
                go_wp2_with fail
                go_roundg (N - (y + 1))
                case measure => omega
                case rel => exact ⟨y + 1, A, C, l, by omega, by omega, rfl, by go_num, by rw [Hll.out], by rw [← Hll.out]; exact hlC, by rw [HNo.out]; exact Hl.out.symm, Hx.out⟩
              · cases t2 : (fp == fq)
                · have HNo := Lib.hid (HNo.out (by simp [t2]))
                  have d1 : decide ((p : Int) < 0) = false := decide_eq_false (by omega)
                  have d2 : decide ((q : Int) < 0) = false := decide_eq_false (by omega)
                  go_wp2_with fail
                  clear k1
                  refine wp_region_class (fun W => HH w W [(w.heap.size, rowO 24 [.slice aS n cS, .slice (some ⟨bM, oM, none⟩) N cM, .int .i64 L])] [⟨some ⟨bF, oF, none⟩, cF, 3, ints F⟩, ⟨A, C * 2, 41, prs l⟩]) (by kernel_rfl) (by kernel_rfl) Hh.out.drew ?_
                  refine no_implicit_lambda% (wpQuiet_loadRow (.tmp 1) 24 w.heap.size 24 [.slice aS n cS, .slice (some ⟨bM, oM, none⟩) N cM, .int .i64 L] rfl rfl (by kernel_rfl) Tryz.isAgg24 Tryz.sizeOf24 (fun W' h => h.row (k := 0) rfl) ?_)
                  simp only [Act.put, List.setIfInBounds_toArray, List.set_cons_succ, List.set_cons_zero]
                  refine no_implicit_lambda% (wpQuiet_move (.tmp 6) (.int .i64 (y : Int)) rfl rfl (by kernel_rfl) ?_)
                  simp only [Act.put, List.setIfInBounds_toArray, List.set_cons_succ, List.set_cons_zero]
                  refine no_implicit_lambda% (wpQuiet_call (.bool true) 24 _ _ [.agg #[.slice aS n cS, .slice (some ⟨bM, oM, none⟩) N cM, .int .i64 L], .int .i64 (y : Int)] rfl rfl (by kernel_rfl) Tryz.call24 (fun W' h => HOy.out W' h) ?_)
                  simp only [Act.put, List.setIfInBounds_toArray, List.set_cons_succ, List.set_cons_zero]
                  refine no_implicit_lambda% (wpQuiet_move (.tmp 33) (.bool true) rfl rfl (by kernel_rfl) ?_)
                  simp only [Act.put, List.setIfInBounds_toArray, List.set_cons_succ, List.set_cons_zero]
                  refine no_implicit_lambda% (wpQuietW_move (.tmp 3) (.slice (some ⟨bF, oF, none⟩) N cF) (by kernel_rfl) rfl (by kernel_rfl) ?_)
                  simp only [Act.put, List.setIfInBounds_toArray, List.set_cons_succ, List.set_cons_zero]
                  refine no_implicit_lambda% (wpQuietW_move (.tmp 5) (.int .i64 (x : Int)) (by kernel_rfl) rfl (by kernel_rfl) ?_)
                  simp only [Act.put, List.setIfInBounds_toArray, List.set_cons_succ, List.set_cons_zero]
                  refine no_implicit_lambda% (wpQuietW_val (.pointer (some ⟨bF, oF + x, none⟩)) (by kernel_rfl) (fun W' hW' => ?_) ?_)
                  · obtain ⟨i1, i2, i3, i4, i5, i6, i7, i8, i9⟩ := HKS.out W' _ hW'
                    go_simp
                  simp only [Act.put, List.setIfInBounds_toArray, List.set_cons_succ, List.set_cons_zero]
                  refine no_implicit_lambda% (wpQuietW_val (.int .i64 fx) (by kernel_rfl) (fun W' hW' => ?_) ?_)
                  · obtain ⟨i1, i2, i3, i4, i5, i6, i7, i8, i9⟩ := HKS.out W' _ hW'
                    go_simp
                  simp only [Act.put, List.setIfInBounds_toArray, List.set_cons_succ, List.set_cons_zero]
                  refine no_implicit_lambda% (wpQuietW_move (.tmp 3) (.slice (some ⟨bF, oF, none⟩) N cF) (by kernel_rfl) rfl (by kernel_rfl) ?_)
                  simp only [Act.put, List.setIfInBounds_toArray, List.set_cons_succ, List.set_cons_zero]
                  refine no_implicit_lambda% (wpQuietW_move (.tmp 6) (.int .i64 (y : Int)) (by kernel_rfl) rfl (by kernel_rfl) ?_)
                  simp only [Act.put, List.setIfInBounds_toArray, List.set_cons_succ, List.set_cons_zero]
                  refine no_implicit_lambda% (wpQuietW_val (.pointer (some ⟨bF, oF + y, none⟩)) (by kernel_rfl) (fun W' hW' => ?_) ?_)
                  · obtain ⟨i1, i2, i3, i4, i5, i6, i7, i8, i9⟩ := HKS.out W' _ hW'
                    go_simp
                  simp only [Act.put, List.setIfInBounds_toArray, List.set_cons_succ, List.set_cons_zero]
                  refine no_implicit_lambda% (wpQuietW_val (.int .i64 fy) (by kernel_rfl) (fun W' hW' => ?_) ?_)
                  · obtain ⟨i1, i2, i3, i4, i5, i6, i7, i8, i9⟩ := HKS.out W' _ hW'
                    go_simp
                  simp only [Act.put, List.setIfInBounds_toArray, List.set_cons_succ, List.set_cons_zero]
                  refine no_implicit_lambda% (wpQuietW_val (.bool true) (by kernel_rfl) (fun W' hW' => ?_) ?_)
                  · obtain ⟨i1, i2, i3, i4, i5, i6, i7, i8, i9⟩ := HKS.out W' _ hW'
                    go_simp
                  simp only [Act.put, List.setIfInBounds_toArray, List.set_cons_succ, List.set_cons_zero]
                  refine no_implicit_lambda% (wpQuiet_val (.bool true) rfl (fun W' hW' => ?_) ?_)
                  · go_simp
                  simp only [Act.put, List.setIfInBounds_toArray, List.set_cons_succ, List.set_cons_zero]
                  refine no_implicit_lambda% (wpQuiet_move (.tmp 44) (.bool true) rfl rfl (by kernel_rfl) ?_)
                  simp only [Act.put, List.setIfInBounds_toArray, List.set_cons_succ, List.set_cons_zero]
                  refine no_implicit_lambda% (wpQuietW_move (.tmp 3) (.slice (some ⟨bF, oF, none⟩) N cF) (by kernel_rfl) rfl (by kernel_rfl) ?_)
                  simp only [Act.put, List.setIfInBounds_toArray, List.set_cons_succ, List.set_cons_zero]
                  refine no_implicit_lambda% (wpQuietW_val (.pointer (some ⟨w.heap.size, 1, none⟩)) (by kernel_rfl) (fun W' hW' => ?_) ?_)
                  · obtain ⟨i1, i2, i3, i4, i5, i6, i7, i8, i9⟩ := HKS.out W' _ hW'
                    go_simp
                  simp only [Act.put, List.setIfInBounds_toArray, List.set_cons_succ, List.set_cons_zero]
                  refine no_implicit_lambda% (wpQuietW_val (.slice (some ⟨bM, oM, none⟩) N cM) (by kernel_rfl) (fun W' hW' => ?_) ?_)
                  · obtain ⟨i1, i2, i3, i4, i5, i6, i7, i8, i9⟩ := HKS.out W' _ hW'
                    go_simp
                  simp only [Act.put, List.setIfInBounds_toArray, List.set_cons_succ, List.set_cons_zero]
                  refine no_implicit_lambda% (wpQuietW_move (.tmp 5) (.int .i64 (x : Int)) (by kernel_rfl) rfl (by kernel_rfl) ?_)
                  simp only [Act.put, List.setIfInBounds_toArray, List.set_cons_succ, List.set_cons_zero]
                  refine no_implicit_lambda% (wpQuietW_val (.pointer (some ⟨bM, oM + x, none⟩)) (by kernel_rfl) (fun W' hW' => ?_) ?_)
                  · obtain ⟨i1, i2, i3, i4, i5, i6, i7, i8, i9⟩ := HKS.out W' _ hW'
                    go_simp
                  simp only [Act.put, List.setIfInBounds_toArray, List.set_cons_succ, List.set_cons_zero]
                  refine no_implicit_lambda% (wpQuietW_val (.int .i64 (p : Int)) (by kernel_rfl) (fun W' hW' => ?_) ?_)
                  · obtain ⟨i1, i2, i3, i4, i5, i6, i7, i8, i9⟩ := HKS.out W' _ hW'
                    go_simp
                  simp only [Act.put, List.setIfInBounds_toArray, List.set_cons_succ, List.set_cons_zero]
                  refine no_implicit_lambda% (wpQuietW_val (.pointer (some ⟨bF, oF + p, none⟩)) (by kernel_rfl) (fun W' hW' => ?_) ?_)
                  · obtain ⟨i1, i2, i3, i4, i5, i6, i7, i8, i9⟩ := HKS.out W' _ hW'
                    go_simp
                  simp only [Act.put, List.setIfInBounds_toArray, List.set_cons_succ, List.set_cons_zero]
                  refine no_implicit_lambda% (wpQuietW_val (.int .i64 fp) (by kernel_rfl) (fun W' hW' => ?_) ?_)
                  · obtain ⟨i1, i2, i3, i4, i5, i6, i7, i8, i9⟩ := HKS.out W' _ hW'
                    go_simp
                  simp only [Act.put, List.setIfInBounds_toArray, List.set_cons_succ, List.set_cons_zero]
                  refine no_implicit_lambda% (wpQuietW_move (.tmp 3) (.slice (some ⟨bF, oF, none⟩) N cF) (by kernel_rfl) rfl (by kernel_rfl) ?_)
                  simp only [Act.put, List.setIfInBounds_toArray, List.set_cons_succ, List.set_cons_zero]
                  refine no_implicit_lambda% (wpQuietW_val (.pointer (some ⟨w.heap.size, 1, none⟩)) (by kernel_rfl) (fun W' hW' => ?_) ?_)
                  · obtain ⟨i1, i2, i3, i4, i5, i6, i7, i8, i9⟩ := HKS.out W' _ hW'
                    go_simp
                  simp only [Act.put, List.setIfInBounds_toArray, List.set_cons_succ, List.set_cons_zero]
                  refine no_implicit_lambda% (wpQuietW_val (.slice (some ⟨bM, oM, none⟩) N cM) (by kernel_rfl) (fun W' hW' => ?_) ?_)
                  · obtain ⟨i1, i2, i3, i4, i5, i6, i7, i8, i9⟩ := HKS.out W' _ hW'
                    go_simp
                  simp only [Act.put, List.setIfInBounds_toArray, List.set_cons_succ, List.set_cons_zero]
                  refine no_implicit_lambda% (wpQuietW_move (.tmp 6) (.int .i64 (y : Int)) (by kernel_rfl) rfl (by kernel_rfl) ?_)
                  simp only [Act.put, List.setIfInBounds_toArray, List.set_cons_succ, List.set_cons_zero]
                  refine no_implicit_lambda% (wpQuietW_val (.pointer (some ⟨bM, oM + y, none⟩)) (by kernel_rfl) (fun W' hW' => ?_) ?_)
                  · obtain ⟨i1, i2, i3, i4, i5, i6, i7, i8, i9⟩ := HKS.out W' _ hW'
                    go_simp
                  simp only [Act.put, List.setIfInBounds_toArray, List.set_cons_succ, List.set_cons_zero]
                  refine no_implicit_lambda% (wpQuietW_val (.int .i64 (q : Int)) (by kernel_rfl) (fun W' hW' => ?_) ?_)
                  · obtain ⟨i1, i2, i3, i4, i5, i6, i7, i8, i9⟩ := HKS.out W' _ hW'
                    go_simp
                  simp only [Act.put, List.setIfInBounds_toArray, List.set_cons_succ, List.set_cons_zero]
                  refine no_implicit_lambda% (wpQuietW_val (.pointer (some ⟨bF, oF + q, none⟩)) (by kernel_rfl) (fun W' hW' => ?_) ?_)
                  · obtain ⟨i1, i2, i3, i4, i5, i6, i7, i8, i9⟩ := HKS.out W' _ hW'
                    go_simp
                  simp only [Act.put, List.setIfInBounds_toArray, List.set_cons_succ, List.set_cons_zero]
                  refine no_implicit_lambda% (wpQuietW_val (.int .i64 fq) (by kernel_rfl) (fun W' hW' => ?_) ?_)
                  · obtain ⟨i1, i2, i3, i4, i5, i6, i7, i8, i9⟩ := HKS.out W' _ hW'
                    go_simp
                  simp only [Act.put, List.setIfInBounds_toArray, List.set_cons_succ, List.set_cons_zero]
                  refine no_implicit_lambda% (wpQuietW_val (.bool false) (by kernel_rfl) (fun W' hW' => ?_) ?_)
                  · obtain ⟨i1, i2, i3, i4, i5, i6, i7, i8, i9⟩ := HKS.out W' _ hW'
                    go_simp
                  simp only [Act.put, List.setIfInBounds_toArray, List.set_cons_succ, List.set_cons_zero]
                  refine no_implicit_lambda% (wpQuiet_val (.bool false) rfl (fun W' hW' => ?_) ?_)
                  · go_simp
                  simp only [Act.put, List.setIfInBounds_toArray, List.set_cons_succ, List.set_cons_zero]
                  refine no_implicit_lambda% (wpQuiet_end ?_)
                  intro w5 hw5
                  have Hx := Lib.hid hw5
                  clear hw5
                  go_wp2_with fail
                  go_roundg (N - (y + 1))
                  case measure => omega
                  case rel => exact ⟨y + 1, A, C, l, by omega, by omega, rfl, by go_num, by rw [Hll.out], by rw [← Hll.out]; exact hlC, by rw [HNo.out]; exact Hl.out.symm, Hx.out⟩
                · have HYes := Lib.hid (HYes.out (by simp [t1, t2]))
                  have d1 : decide ((p : Int) < 0) = false := decide_eq_false (by omega)
                  have d2 : decide ((q : Int) < 0) = false := decide_eq_false (by omega)
                  go_wp2_with fail
                  clear k1
                  refine wp_region_class (fun W => HH w W [(w.heap.size, rowO 24 [.slice aS n cS, .slice (some ⟨bM, oM, none⟩) N cM, .int .i64 L])] [⟨some ⟨bF, oF, none⟩, cF, 3, ints F⟩, ⟨A, C * 2, 41, prs l⟩]) (by kernel_rfl) (by kernel_rfl) Hh.out.drew ?_
                  refine no_implicit_lambda% (wpQuiet_loadRow (.tmp 1) 24 w.heap.size 24 [.slice aS n cS, .slice (some ⟨bM, oM, none⟩) N cM, .int .i64 L] rfl rfl (by kernel_rfl) Tryz.isAgg24 Tryz.sizeOf24 (fun W' h => h.row (k := 0) rfl) ?_)
                  simp only [Act.put, List.setIfInBounds_toArray, List.set_cons_succ, List.set_cons_zero]
                  refine no_implicit_lambda% (wpQuiet_move (.tmp 6) (.int .i64 (y : Int)) rfl rfl (by kernel_rfl) ?_)
                  simp only [Act.put, List.setIfInBounds_toArray, List.set_cons_succ, List.set_cons_zero]
                  refine no_implicit_lambda% (wpQuiet_call (.bool true) 24 _ _ [.agg #[.slice aS n cS, .slice (some ⟨bM, oM, none⟩) N cM, .int .i64 L], .int .i64 (y : Int)] rfl rfl (by kernel_rfl) Tryz.call24 (fun W' h => HOy.out W' h) ?_)
                  simp only [Act.put, List.setIfInBounds_toArray, List.set_cons_succ, List.set_cons_zero]
                  refine no_implicit_lambda% (wpQuiet_move (.tmp 33) (.bool true) rfl rfl (by kernel_rfl) ?_)
                  simp only [Act.put, List.setIfInBounds_toArray, List.set_cons_succ, List.set_cons_zero]
                  refine no_implicit_lambda% (wpQuietW_move (.tmp 3) (.slice (some ⟨bF, oF, none⟩) N cF) (by kernel_rfl) rfl (by kernel_rfl) ?_)
                  simp only [Act.put, List.setIfInBounds_toArray, List.set_cons_succ, List.set_cons_zero]
                  refine no_implicit_lambda% (wpQuietW_move (.tmp 5) (.int .i64 (x : Int)) (by kernel_rfl) rfl (by kernel_rfl) ?_)
                  simp only [Act.put, List.setIfInBounds_toArray, List.set_cons_succ, List.set_cons_zero]
                  refine no_implicit_lambda% (wpQuietW_val (.pointer (some ⟨bF, oF + x, none⟩)) (by kernel_rfl) (fun W' hW' => ?_) ?_)
                  · obtain ⟨i1, i2, i3, i4, i5, i6, i7, i8, i9⟩ := HKS.out W' _ hW'
                    go_simp
                  simp only [Act.put, List.setIfInBounds_toArray, List.set_cons_succ, List.set_cons_zero]
                  refine no_implicit_lambda% (wpQuietW_val (.int .i64 fx) (by kernel_rfl) (fun W' hW' => ?_) ?_)
                  · obtain ⟨i1, i2, i3, i4, i5, i6, i7, i8, i9⟩ := HKS.out W' _ hW'
                    go_simp
                  simp only [Act.put, List.setIfInBounds_toArray, List.set_cons_succ, List.set_cons_zero]
                  refine no_implicit_lambda% (wpQuietW_move (.tmp 3) (.slice (some ⟨bF, oF, none⟩) N cF) (by kernel_rfl) rfl (by kernel_rfl) ?_)
                  simp only [Act.put, List.setIfInBounds_toArray, List.set_cons_succ, List.set_cons_zero]
                  refine no_implicit_lambda% (wpQuietW_move (.tmp 6) (.int .i64 (y : Int)) (by kernel_rfl) rfl (by kernel_rfl) ?_)
                  simp only [Act.put, List.setIfInBounds_toArray, List.set_cons_succ, List.set_cons_zero]
                  refine no_implicit_lambda% (wpQuietW_val (.pointer (some ⟨bF, oF + y, none⟩)) (by kernel_rfl) (fun W' hW' => ?_) ?_)
                  · obtain ⟨i1, i2, i3, i4, i5, i6, i7, i8, i9⟩ := HKS.out W' _ hW'
                    go_simp
                  simp only [Act.put, List.setIfInBounds_toArray, List.set_cons_succ, List.set_cons_zero]
                  refine no_implicit_lambda% (wpQuietW_val (.int .i64 fy) (by kernel_rfl) (fun W' hW' => ?_) ?_)
                  · obtain ⟨i1, i2, i3, i4, i5, i6, i7, i8, i9⟩ := HKS.out W' _ hW'
                    go_simp
                  simp only [Act.put, List.setIfInBounds_toArray, List.set_cons_succ, List.set_cons_zero]
                  refine no_implicit_lambda% (wpQuietW_val (.bool true) (by kernel_rfl) (fun W' hW' => ?_) ?_)
                  · obtain ⟨i1, i2, i3, i4, i5, i6, i7, i8, i9⟩ := HKS.out W' _ hW'
                    go_simp
                  simp only [Act.put, List.setIfInBounds_toArray, List.set_cons_succ, List.set_cons_zero]
                  refine no_implicit_lambda% (wpQuiet_val (.bool true) rfl (fun W' hW' => ?_) ?_)
                  · go_simp
                  simp only [Act.put, List.setIfInBounds_toArray, List.set_cons_succ, List.set_cons_zero]
                  refine no_implicit_lambda% (wpQuiet_move (.tmp 44) (.bool true) rfl rfl (by kernel_rfl) ?_)
                  simp only [Act.put, List.setIfInBounds_toArray, List.set_cons_succ, List.set_cons_zero]
                  refine no_implicit_lambda% (wpQuietW_move (.tmp 3) (.slice (some ⟨bF, oF, none⟩) N cF) (by kernel_rfl) rfl (by kernel_rfl) ?_)
                  simp only [Act.put, List.setIfInBounds_toArray, List.set_cons_succ, List.set_cons_zero]
                  refine no_implicit_lambda% (wpQuietW_val (.pointer (some ⟨w.heap.size, 1, none⟩)) (by kernel_rfl) (fun W' hW' => ?_) ?_)
                  · obtain ⟨i1, i2, i3, i4, i5, i6, i7, i8, i9⟩ := HKS.out W' _ hW'
                    go_simp
                  simp only [Act.put, List.setIfInBounds_toArray, List.set_cons_succ, List.set_cons_zero]
                  refine no_implicit_lambda% (wpQuietW_val (.slice (some ⟨bM, oM, none⟩) N cM) (by kernel_rfl) (fun W' hW' => ?_) ?_)
                  · obtain ⟨i1, i2, i3, i4, i5, i6, i7, i8, i9⟩ := HKS.out W' _ hW'
                    go_simp
                  simp only [Act.put, List.setIfInBounds_toArray, List.set_cons_succ, List.set_cons_zero]
                  refine no_implicit_lambda% (wpQuietW_move (.tmp 5) (.int .i64 (x : Int)) (by kernel_rfl) rfl (by kernel_rfl) ?_)
                  simp only [Act.put, List.setIfInBounds_toArray, List.set_cons_succ, List.set_cons_zero]
                  refine no_implicit_lambda% (wpQuietW_val (.pointer (some ⟨bM, oM + x, none⟩)) (by kernel_rfl) (fun W' hW' => ?_) ?_)
                  · obtain ⟨i1, i2, i3, i4, i5, i6, i7, i8, i9⟩ := HKS.out W' _ hW'
                    go_simp
                  simp only [Act.put, List.setIfInBounds_toArray, List.set_cons_succ, List.set_cons_zero]
                  refine no_implicit_lambda% (wpQuietW_val (.int .i64 (p : Int)) (by kernel_rfl) (fun W' hW' => ?_) ?_)
                  · obtain ⟨i1, i2, i3, i4, i5, i6, i7, i8, i9⟩ := HKS.out W' _ hW'
                    go_simp
                  simp only [Act.put, List.setIfInBounds_toArray, List.set_cons_succ, List.set_cons_zero]
                  refine no_implicit_lambda% (wpQuietW_val (.pointer (some ⟨bF, oF + p, none⟩)) (by kernel_rfl) (fun W' hW' => ?_) ?_)
                  · obtain ⟨i1, i2, i3, i4, i5, i6, i7, i8, i9⟩ := HKS.out W' _ hW'
                    go_simp
                  simp only [Act.put, List.setIfInBounds_toArray, List.set_cons_succ, List.set_cons_zero]
                  refine no_implicit_lambda% (wpQuietW_val (.int .i64 fp) (by kernel_rfl) (fun W' hW' => ?_) ?_)
                  · obtain ⟨i1, i2, i3, i4, i5, i6, i7, i8, i9⟩ := HKS.out W' _ hW'
                    go_simp
                  simp only [Act.put, List.setIfInBounds_toArray, List.set_cons_succ, List.set_cons_zero]
                  refine no_implicit_lambda% (wpQuietW_move (.tmp 3) (.slice (some ⟨bF, oF, none⟩) N cF) (by kernel_rfl) rfl (by kernel_rfl) ?_)
                  simp only [Act.put, List.setIfInBounds_toArray, List.set_cons_succ, List.set_cons_zero]
                  refine no_implicit_lambda% (wpQuietW_val (.pointer (some ⟨w.heap.size, 1, none⟩)) (by kernel_rfl) (fun W' hW' => ?_) ?_)
                  · obtain ⟨i1, i2, i3, i4, i5, i6, i7, i8, i9⟩ := HKS.out W' _ hW'
                    go_simp
                  simp only [Act.put, List.setIfInBounds_toArray, List.set_cons_succ, List.set_cons_zero]
                  refine no_implicit_lambda% (wpQuietW_val (.slice (some ⟨bM, oM, none⟩) N cM) (by kernel_rfl) (fun W' hW' => ?_) ?_)
                  · obtain ⟨i1, i2, i3, i4, i5, i6, i7, i8, i9⟩ := HKS.out W' _ hW'
                    go_simp
                  simp only [Act.put, List.setIfInBounds_toArray, List.set_cons_succ, List.set_cons_zero]
                  refine no_implicit_lambda% (wpQuietW_move (.tmp 6) (.int .i64 (y : Int)) (by kernel_rfl) rfl (by kernel_rfl) ?_)
                  simp only [Act.put, List.setIfInBounds_toArray, List.set_cons_succ, List.set_cons_zero]
                  refine no_implicit_lambda% (wpQuietW_val (.pointer (some ⟨bM, oM + y, none⟩)) (by kernel_rfl) (fun W' hW' => ?_) ?_)
                  · obtain ⟨i1, i2, i3, i4, i5, i6, i7, i8, i9⟩ := HKS.out W' _ hW'
                    go_simp
                  simp only [Act.put, List.setIfInBounds_toArray, List.set_cons_succ, List.set_cons_zero]
                  refine no_implicit_lambda% (wpQuietW_val (.int .i64 (q : Int)) (by kernel_rfl) (fun W' hW' => ?_) ?_)
                  · obtain ⟨i1, i2, i3, i4, i5, i6, i7, i8, i9⟩ := HKS.out W' _ hW'
                    go_simp
                  simp only [Act.put, List.setIfInBounds_toArray, List.set_cons_succ, List.set_cons_zero]
                  refine no_implicit_lambda% (wpQuietW_val (.pointer (some ⟨bF, oF + q, none⟩)) (by kernel_rfl) (fun W' hW' => ?_) ?_)
                  · obtain ⟨i1, i2, i3, i4, i5, i6, i7, i8, i9⟩ := HKS.out W' _ hW'
                    go_simp
                  simp only [Act.put, List.setIfInBounds_toArray, List.set_cons_succ, List.set_cons_zero]
                  refine no_implicit_lambda% (wpQuietW_val (.int .i64 fq) (by kernel_rfl) (fun W' hW' => ?_) ?_)
                  · obtain ⟨i1, i2, i3, i4, i5, i6, i7, i8, i9⟩ := HKS.out W' _ hW'
                    go_simp
                  simp only [Act.put, List.setIfInBounds_toArray, List.set_cons_succ, List.set_cons_zero]
                  refine no_implicit_lambda% (wpQuietW_val (.bool true) (by kernel_rfl) (fun W' hW' => ?_) ?_)
                  · obtain ⟨i1, i2, i3, i4, i5, i6, i7, i8, i9⟩ := HKS.out W' _ hW'
                    go_simp
                  simp only [Act.put, List.setIfInBounds_toArray, List.set_cons_succ, List.set_cons_zero]
                  refine no_implicit_lambda% (wpQuiet_val (.bool true) rfl (fun W' hW' => ?_) ?_)
                  · go_simp
                  simp only [Act.put, List.setIfInBounds_toArray, List.set_cons_succ, List.set_cons_zero]
                  refine no_implicit_lambda% (wpQuiet_end ?_)
                  intro w5 hw5
                  have Hx := Lib.hid hw5
                  clear hw5
                  have Ha := Lib.hid (Hx.out.call ((Below.refl _ _).alloc (Nat.le_refl _) (.cells #[.int .i64 (x : Int), .int .i64 (y : Int)] 41)))
                  have Hus : Hid (VAt (w5.alloc (.cells #[.int .i64 (x : Int), .int .i64 (y : Int)] 41)) (some ⟨w5.heap.size, 0, none⟩) [.int .i64 (x : Int), .int .i64 (y : Int)]) := Lib.hid (Row.new w5 #[.int .i64 (x : Int), .int .i64 (y : Int)] 41).at
                  have Hl1 := Lib.hid Ha.out.below.size
                  go_wp2_with (with_reducible refine wpList_append_wide rfl (.tmp 64) (.tmp 68) 38 38 rfl w.heap.size 41 i0 _ 16 2 Tryz.underlying38 Tryz.underlying38 hi0 hz0 hz1 (by decide) hz2 Hzc.out A ll C (prs l) rfl Hvl.out hlC (Ha.out.sl (k := 1) rfl) (some ⟨w5.heap.size, 0, none⟩) 1 1 [.int .i64 (x : Int), .int .i64 (y : Int)] rfl Hum.out Hus.out Hu1.out (by omega) (by omega) Hl1.out ?_; intro A7 e7 w7 hle hO7 hT7 hA7; have HO7 := Lib.hid hO7; have HT7 := Lib.hid hT7; have HA7 := Lib.hid hA7; clear hO7 hT7 hA7)
                  have H7 := Lib.hid (Ha.out.grow (k := 1) rfl HO7.out HT7.out HA7.out)
                  go_roundg (N - (y + 1))
                  case measure => omega
                  case rel =>
                    refine ⟨y + 1, A7, e7, l ++ [(x, y)], by omega, by omega, rfl, by go_num, by rw [List.length_append, Hll.out]; rfl, by rw [List.length_append, ← Hll.out]; exact hle, by rw [HYes.out, Hl.out, List.append_assoc], ?_⟩
                    have h := H7.out
                    rw [prs_snoc] at h
                    exact h
          · obtain rfl : y = N := by omega
            have k1 := Hh.out.cell (k := 0) (i := 1) rfl rfl
            go_wp2_with fail
            go_roundg (y - (x + 1))
            case measure => omega
            case rel => exact ⟨x + 1, A, C, l, by omega, rfl, by go_num, by rw [Hll.out], by rw [← Hll.out]; exact hlC, by rw [Hre.out]; exact Hl.out, Hh.out⟩
    · obtain rfl : x = N := by omega
      go_wp2_with fail
      go_ret
      rw [← Hl.out]
      exact ⟨A, C, by rw [Hll.out]; rfl, by rw [← Hll.out]; exact hlC, Hh.out.sl (k := 1) rfl, Hh.out.below⟩
end Go.Proofs.YtmjoijfafachhaaGreatDoor


