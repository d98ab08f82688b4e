/- The reference's In and Factor. -/
import Derived.Test.YtmjoijfafachhaaRPartW
import Derived.Test.YtmjoijfafachhaaRSumW
import Derived.Test.YtmjoijfafachhaaFacW
namespace Go.Proofs.Ytmjoijfafachhaa
open Go Go.RowKit
theorem cell_keptB {w w' : World} {b : Nat} (h : w'.heap[b]? = w.heap[b]?) {i : Nat} : w'.cell? ⟨b, i, none⟩ = w.cell? ⟨b, i, none⟩ := by simp [World.cell?, h]
set_option maxRecDepth 100000 in
set_option maxHeartbeats 1000000 in
theorem in_nats (a : Option Addr) (cG : Nat) (G : List Nat) (x : Nat) (w : World) (h1 : G.length ≤ 1000000) (hG : IntsAt w a (nats G)) :
    Calls Try.prog 65 #[.slice a G.length cG, .int .i64 (x : Int)] w fun e w' => e = .returned (.bool (decide (x ∈ G))) ∧ w' = w := by
  have HG := Lib.hid hG
  have HX : Hid (∀ j, j < G.length → G.getD j 0 = x → decide (x ∈ G) = true) := Lib.hid fun j hj e => decide_eq_true (by
    rw [← e, List.getD_eq_getElem?_getD, List.getElem?_eq_getElem hj]; exact List.getElem_mem _)
  have HN : Hid ((∀ j, j < G.length → G.getD j 0 ≠ x) → decide (x ∈ G) = false) := Lib.hid fun h => decide_eq_false fun hm => by
    obtain ⟨j, hj, e⟩ := List.getElem_of_mem hm
    refine h j hj ?_
    rw [List.getD_eq_getElem?_getD, List.getElem?_eq_getElem hj, e]; rfl
  clear hG
  generalize decide (x ∈ G) = t at *
  go_enter Try.func65, Try.ntmps65
  go_wp2_with fail
  go_loopg [5] G.length (fun g v wr => ∃ j : Nat, j ≤ G.length ∧ g = G.length - j ∧ v = .int .i64 j ∧ Hid (∀ k, k < j → G.getD k 0 ≠ x) ∧ wr = w)
  case atStart => exact ⟨0, Nat.zero_le _, rfl, rfl, Lib.hid fun k hk => absurd hk (Nat.not_lt_zero _), rfl⟩
  case round =>
    obtain ⟨j, hj, rfl, rfl, Hk, hw⟩ := hrel
    subst hw
    by_cases hjl : j < G.length
    · obtain ⟨b, off, rfl, _, hc⟩ := HG.out.open (by rw [nats_length]; omega)
      have hcx := hc j (by rw [nats_length]; exact hjl)
      rw [nth_nats _ _ hjl] at hcx
      clear hc
      by_cases e : G.getD j 0 = x
      · have ht := HX.out j hjl e
        subst ht
        rw [e] at hcx
        clear e
        go_wp2_with fail
        go_ret
        exact ⟨rfl, rfl⟩
      · have t1 : (((G.getD j 0 : Nat) : Int) == (x : Int)) = false := by rw [beq_eq_false_iff_ne]; omega
        have Hk2 : Hid (∀ k, k < j + 1 → G.getD k 0 ≠ x) := Lib.hid fun k hk => by
          by_cases g : k = j
          · rw [g]; exact e
          · exact Hk.out k (by omega)
        generalize G.getD j 0 = v at *
        clear e
        go_wp2_with fail
        go_roundg (G.length - (j + 1))
        case measure => omega
        case rel => exact ⟨j + 1, by omega, rfl, by go_num, Lib.hid Hk2.out, rfl⟩
    · obtain rfl : j = G.length := by omega
      have ht := HN.out Hk.out
      subst ht
      go_wp2_with fail
      go_ret
      exact ⟨rfl, rfl⟩
set_option maxRecDepth 100000 in
set_option maxHeartbeats 4000000 in
theorem rfactor_yes (S M : List Int) (L : Int) (aS aM : Option Addr) (cS cM : Nat) (x y : Nat) (w : World) (hv : vldB S M L = true) (hx : x < 4 * S.length) (hy : y < 4 * S.length) (hox : outB S x = true) (hoy : outB S y = true) (hxy : x ≠ y) (h1 : OnOrb (fc M) x y) (h2 : OnOrb (fc M) (mt M x) (mt M y)) (hS : IntsAt w aS S) (hM : IntsAt w aM M) :
    Calls Try.prog 25 #[.agg #[.slice aS S.length cS, .slice aM M.length cM, .int .i64 L], .int .i64 (x : Int), .int .i64 (y : Int)] w fun e w' => ∃ a b c d a' b' c' d', e = .returned (.tuple #[.agg #[.slice a (facA S M x y).1.length c, .slice b (facA S M x y).2.1.length d, .int .i64 0], .agg #[.slice a' (facB S M x y).1.length c', .slice b' (facB S M x y).2.1.length d', .int .i64 0]]) ∧
      Own w' w.heap.size 3 a c (ints (facA S M x y).1) ∧ Own w' w.heap.size 3 b d (ints (facA S M x y).2.1) ∧ Own w' w.heap.size 3 a' c' (ints (facB S M x y).1) ∧ Own w' w.heap.size 3 b' d' (ints (facB S M x y).2.1) ∧ Below w.heap.size w w' := by
  have hs := vldB_shape hv
  have hfw := hs.few
  have hml := hs.len
  have hmt := hs.mates2
  obtain ⟨hv', _⟩ := fac_good hv hx hy hox hoy hxy h1 h2
  have hs' := vldB_shape hv'
  have HCl : Hid (∀ W', Below w.heap.size w W' → Calls Try.prog 64 #[.agg #[.slice aS S.length cS, .slice aM M.length cM, .int .i64 L]] W' fun e w' => ∃ a b c d, e = .returned (.agg #[.slice a S.length c, .slice b M.length d, .int .i64 L]) ∧ Own w' W'.heap.size 3 a c (ints S) ∧ Own w' W'.heap.size 3 b d (ints M) ∧ (∀ p q, a = some p → b = some q → p.block ≠ q.block) ∧ Below W'.heap.size W' w') := Lib.hid fun W' hb => copy_own S M L aS aM cS cM W' (by omega) (by omega) (hS.later hb) (hM.later hb)
  have hrx := hs.range x (by omega)
  have hry := hs.range y (by omega)
  have hul : (crossL M x y).length = M.length := crossL_len M x y
  have HG : Hid (∀ (b : Option Addr) (d : Nat) W', IntsAt W' b (crossL M x y) → Calls Try.prog 54 #[.slice b M.length d] W' fun e w' => ∃ a c, e = .returned (.slice a (grpOf (crossL M x y) S.length).length c) ∧ OwnRows w' W'.heap.size a c ((grpOf (crossL M x y) S.length).map nats) ∧ Below W'.heap.size W' w') := Lib.hid fun b d W' hb => by
    have g := rgraph_any (crossL M x y) S.length b d W' hfw hs'.len hs'.mates2.ok hb
    rw [hul] at g; exact g
  have hmem : ∀ i, i < (grpOf (crossL M x y) S.length).length → (grpOf (crossL M x y) S.length).getD i [] ∈ grpOf (crossL M x y) S.length := fun i hi => by
    rw [List.getD_eq_getElem?_getD, List.getElem?_eq_getElem hi]; exact List.getElem_mem hi
  have HP : Hid (∀ i, i < (grpOf (crossL M x y) S.length).length → ∀ (a b aG : Option Addr) (c d cG : Nat) W', IntsAt W' a S → IntsAt W' b (crossL M x y) → IntsAt W' aG (nats ((grpOf (crossL M x y) S.length).getD i [])) → Calls Try.prog 55 #[.agg #[.slice a S.length c, .slice b M.length d, .int .i64 L], .slice aG ((grpOf (crossL M x y) S.length).getD i []).length cG] W' fun e w' => ∃ a b c d, e = .returned (.agg #[.slice a ((grpOf (crossL M x y) S.length).getD i []).length c, .slice b (4 * ((grpOf (crossL M x y) S.length).getD i []).length) d, .int .i64 0]) ∧ Own w' W'.heap.size 3 a c (ints (partS S ((grpOf (crossL M x y) S.length).getD i []))) ∧ Own w' W'.heap.size 3 b d (ints (partM (crossL M x y) ((grpOf (crossL M x y) S.length).getD i []))) ∧ Below W'.heap.size W' w') := Lib.hid fun i hi a b aG c d cG W' ha hb hg => by
    have g := rpart_any S (crossL M x y) L a b aG c d cG _ W' hv' (grp_whole hs'.mates2.ok (hmem i hi)).1 ha hb hg
    rw [hul] at g; exact g
  have hgl := grp_len (crossL M x y) S.length
  have HGn : Hid (∀ i, i < (grpOf (crossL M x y) S.length).length → 0 < ((grpOf (crossL M x y) S.length).getD i []).length ∧ ((grpOf (crossL M x y) S.length).getD i []).length ≤ 1000000) := Lib.hid fun i hi => by
    obtain ⟨hw, h0⟩ := grp_whole hs'.mates2.ok (hmem i hi)
    refine ⟨h0, ?_⟩
    have := hw.nd.length_le_of_subset (l₂ := List.range S.length) fun c hc => List.mem_range.2 (hw.lt c hc)
    rw [List.length_range] at this
    omega
  have HSx : Hid (facA S M x y = (partS S (selG (grpOf (crossL M x y) S.length) (x / 4)), partM (crossL M x y) (selG (grpOf (crossL M x y) S.length) (x / 4)), 0)) := Lib.hid (by rw [selG_grp hs'.mates2.ok (by omega)]; rfl)
  have HSy : Hid (facB S M x y = (partS S (selG (grpOf (crossL M x y) S.length) (y / 4)), partM (crossL M x y) (selG (grpOf (crossL M x y) S.length) (y / 4)), 0)) := Lib.hid (by rw [selG_grp hs'.mates2.ok (by omega)]; rfl)
  have H0 := Lib.hid ((((HH.start w).alloc #[.slice aS S.length cS, .slice aM M.length cM, .int .i64 L] 24 rfl rfl).alloc #[.slice none 0 0, .slice none 0 0, .int .i64 0] 24 (b := w.heap.size + 1) (by simp) rfl).alloc #[.slice none 0 0, .slice none 0 0, .int .i64 0] 24 (b := w.heap.size + 2) (by simp) rfl)
  rw [HSx.out, HSy.out]
  obtain ⟨p, hp, hpv, hpm⟩ : ∃ p : Nat, p < 4 * S.length ∧ nth M x = (p : Int) ∧ mt M x = p := ⟨mt M x, hs.mt_lt hx, by unfold mt; omega, rfl⟩
  obtain ⟨q, hq, hqv, hqm⟩ : ∃ q : Nat, q < 4 * S.length ∧ nth M y = (q : Int) ∧ mt M y = q := ⟨mt M y, hs.mt_lt hy, by unfold mt; omega, rfl⟩
  have HE : Hid ((((M.set x (q : Int)).set q (x : Int)).set y (p : Int)).set p (y : Int) = crossL M x y) := Lib.hid (by
    unfold crossL
    rw [hqm, hpm, hpv, hqv])
  have hMf : M.length ≤ 256 := by omega
  have hx255 : x ≤ 255 := by omega
  have hy255 : y ≤ 255 := by omega
  rw [← hml] at hx hy hp hq
  have hul0 : 0 < M.length := by omega
  have hx2 : (x : Int) < (M.length : Int) := by omega
  have hy2 : (y : Int) < (M.length : Int) := by omega
  have hp2 : (p : Int) < (M.length : Int) := by omega
  have hq2 : (q : Int) < (M.length : Int) := by omega
  have hx4 : (x : Int) / 4 = ((x / 4 : Nat) : Int) := by omega
  have hy4 : (y : Int) / 4 = ((y / 4 : Nat) : Int) := by omega
  have hx40 : (x : Int).tdiv 4 = ((x / 4 : Nat) : Int) := by rw [Int.tdiv_eq_ediv_of_nonneg (by omega)]; omega
  have hy40 : (y : Int).tdiv 4 = ((y / 4 : Nat) : Int) := by rw [Int.tdiv_eq_ediv_of_nonneg (by omega)]; omega
  have hx64 : x / 4 ≤ 64 := by omega
  have hy64 : y / 4 ≤ 64 := by omega
  have HMl : Hid (M.length = M.length) := Lib.hid rfl
  clear hs hs' hv hv' hS hM hox hoy hxy h1 h2 hmt hmem hrx hry hul HSx HSy hml hpm hqm
  generalize hgs : grpOf (crossL M x y) S.length = gs at *
  clear hgs
  generalize crossL M x y = U at *
  obtain ⟨N, hNe⟩ : ∃ N, N = M.length := ⟨_, rfl⟩
  have HNe := Lib.hid hNe
  rw [← hNe] at hx hy hp hq hx2 hy2 hp2 hq2 hMf HCl HG HP H0 ⊢
  rw [← hNe] at hul0
  clear hNe HMl
  generalize hn : S.length = n at *
  clear hn
  generalize hx4e : x / 4 = x4 at *
  generalize hy4e : y / 4 = y4 at *
  clear hx4e hy4e
  go_enter Try.func25, Try.ntmps25
  go_wp2_with fail
  refine (HCl.out _ H0.out.below).mono ?_
  rintro e w1 ⟨aX, bX, cX, dX, rfl, ho1, ho2, hne, hb⟩
  obtain ⟨bb, oo, rfl, _, _, _, _⟩ := ho2.open (by rw [ints_length, ← HNe.out]; omega)
  have H1 := Lib.hid (H0.out.addTwo hb ho1 ho2 hne)
  clear hb ho1 ho2 hne H0 HCl
  have k00 := H1.out.cell (k := 0) (i := 0) rfl rfl
  have k01 := H1.out.cell (k := 0) (i := 1) rfl rfl
  have k02 := H1.out.cell (k := 0) (i := 2) rfl rfl
  have f0 := H1.out.frozen (k := 0) rfl 0
  have f1 := H1.out.frozen (k := 0) rfl 1
  have f2 := H1.out.frozen (k := 0) rfl 2
  have H2 : Hid (HH w (((w1.setCell ⟨w.heap.size, 0, none⟩ (.slice aX n cX)).setCell ⟨w.heap.size, 1, none⟩ (.slice (some ⟨bb, oo, none⟩) N dX)).setCell ⟨w.heap.size, 2, none⟩ (.int .i64 L)) [(w.heap.size, rowO 24 [.slice aX n cX, .slice (some ⟨bb, oo, none⟩) N dX, .int .i64 L]), (w.heap.size + 1, rowO 24 [.slice none 0 0, .slice none 0 0, .int .i64 0]), (w.heap.size + 2, rowO 24 [.slice none 0 0, .slice none 0 0, .int .i64 0])] [⟨aX, cX, 3, ints S⟩, ⟨some ⟨bb, oo, none⟩, dX, 3, ints M⟩]) := Lib.hid (((H1.out.set (k := 0) rfl 0 (.slice aX n cX)).set (k := 0) rfl 1 (.slice (some ⟨bb, oo, none⟩) N dX)).set (k := 0) rfl 2 (.int .i64 L))
  go_upto_region 2 with fail
  generalize ((w1.setCell ⟨w.heap.size, 0, none⟩ (.slice aX n cX)).setCell ⟨w.heap.size, 1, none⟩ (.slice (some ⟨bb, oo, none⟩) N dX)).setCell ⟨w.heap.size, 2, none⟩ (.int .i64 L) = W at *
  clear k00 k01 k02 f0 f1 f2 H1
  have k31 := H2.out.cell (k := 0) (i := 1) rfl rfl
  have v1 := H2.out.own_int (k := 1) rfl x (by rw [← HNe.out]; omega)
  have v2 := H2.out.own_int (k := 1) rfl y (by rw [← HNe.out]; omega)
  rw [hpv] at v1
  rw [hqv] at v2
  replace H2 := Lib.hid H2.out.drew
  go_region
  all_goals
    generalize W.drew = W2 at *
    clear k31 v1 v2
    have k31 := H2.out.cell (k := 0) (i := 1) rfl rfl
    have v1 := H2.out.own_int (k := 1) rfl x (by rw [← HNe.out]; omega)
    have fr := H2.out.own_frozen (k := 1) rfl (by rw [← HNe.out]; omega)
    have fr3 := fr (oo + q)
    have H4 := Lib.hid (H2.out.slInt (k := 1) rfl x (by rw [← HNe.out]; omega) (q : Int))
    have k32 := H4.out.cell (k := 0) (i := 1) rfl rfl
    have v2 : ∃ u, (W2.setCell ⟨bb, oo + x, none⟩ (.int .i64 (q : Int))).cell? ⟨bb, oo + q, none⟩ = some u := ⟨_, H4.out.own_int (k := 1) rfl q (by rw [List.length_set, ← HNe.out]; omega)⟩
    obtain ⟨u2, v2⟩ := v2
    have fr2 := H4.out.own_frozen (k := 1) rfl (by rw [List.length_set, ← HNe.out]; omega) (oo + q)
    have fr1 := fr (oo + x)
    have H5 := Lib.hid (H4.out.slInt (k := 1) rfl q (by rw [List.length_set, ← HNe.out]; omega) (x : Int)).drew
    clear fr
    go_wp2_with fail
    go_region
    all_goals
      generalize ((W2.setCell ⟨bb, oo + x, none⟩ (.int .i64 (q : Int))).setCell ⟨bb, oo + q, none⟩ (.int .i64 (x : Int))).drew = W3 at *
      clear k31 k32 v1 v2 fr1 fr2 fr3 H2 H4
      have k31 := H5.out.cell (k := 0) (i := 1) rfl rfl
      have v1 := H5.out.own_int (k := 1) rfl y (by rw [List.length_set, List.length_set, ← HNe.out]; omega)
      have fr1 := H5.out.own_frozen (k := 1) rfl (by rw [List.length_set, List.length_set, ← HNe.out]; omega) (oo + y)
      have fr3 := H5.out.own_frozen (k := 1) rfl (by rw [List.length_set, List.length_set, ← HNe.out]; omega) (oo + p)
      have H4 := Lib.hid (H5.out.slInt (k := 1) rfl y (by rw [List.length_set, List.length_set, ← HNe.out]; omega) (p : Int))
      have k32 := H4.out.cell (k := 0) (i := 1) rfl rfl
      have v2 : ∃ u, (W3.setCell ⟨bb, oo + y, none⟩ (.int .i64 (p : Int))).cell? ⟨bb, oo + p, none⟩ = some u := ⟨_, H4.out.own_int (k := 1) rfl p (by rw [List.length_set, List.length_set, List.length_set, ← HNe.out]; omega)⟩
      obtain ⟨u2, v2⟩ := v2
      have fr2 := H4.out.own_frozen (k := 1) rfl (by rw [List.length_set, List.length_set, List.length_set, ← HNe.out]; omega) (oo + p)
      have H6 := Lib.hid (H4.out.slInt (k := 1) rfl p (by rw [List.length_set, List.length_set, List.length_set, ← HNe.out]; omega) (y : Int)).drew
      rw [HE.out] at H6
      go_wp2_with fail
      go_region
      all_goals
        generalize ((W3.setCell ⟨bb, oo + y, none⟩ (.int .i64 (p : Int))).setCell ⟨bb, oo + p, none⟩ (.int .i64 (y : Int))).drew = W4 at *
        clear k31 k32 v1 v2 fr1 fr2 fr3 H4 H5
        have H9 := Lib.hid ((H6.out.alloc #[.slice none 0 0, .slice none 0 0, .int .i64 0] 24 (b := W4.heap.size) rfl rfl).alloc #[.slice none 0 0, .slice none 0 0, .int .i64 0] 24 (b := W4.heap.size + 1) (by simp) rfl)
        have hq8 : w.heap.size + 2 < W4.heap.size := (H6.out.obj (k := 2) rfl).2.1
        clear H6
        have k01 := H9.out.cell (k := 0) (i := 1) rfl rfl
        go_wp2_with fail
        clear k01
        refine (HG.out _ dX _ (H9.out.sl (k := 1) rfl).ints).mono ?_
        rintro e w10 ⟨aP, cP, rfl, ho, hb⟩
        have H10 := Lib.hid (H9.out.call hb)
        have HO := Lib.hid (ho.mono (show w.heap.size ≤ _ from H9.out.below.size))
        clear ho hb H9 HG
        generalize W4.heap.size = s at *
        go_wp2_with fail
        go_loopg [13] gs.length (fun g v wr => ∃ (i : Nat) (a1 b1 a2 b2 : Option Addr) (c1 d1 c2 d2 : Nat) (G1 G2 : List Nat), i ≤ gs.length ∧ g = gs.length - i ∧ v = .int .i64 i ∧ selG (gs.take i) x4 = G1 ∧ selG (gs.take i) y4 = G2 ∧ OwnRows wr w.heap.size aP cP (gs.map nats) ∧ HH w wr [(w.heap.size, rowO 24 [.slice aX n cX, .slice (some ⟨bb, oo, none⟩) N dX, .int .i64 L]), (w.heap.size + 1, rowO 24 [.slice none 0 0, .slice none 0 0, .int .i64 0]), (w.heap.size + 2, rowO 24 [.slice none 0 0, .slice none 0 0, .int .i64 0]), (s, rowO 24 [.slice a1 G1.length c1, .slice b1 (4 * G1.length) d1, .int .i64 0]), (s + 1, rowO 24 [.slice a2 G2.length c2, .slice b2 (4 * G2.length) d2, .int .i64 0])] [⟨aX, cX, 3, ints S⟩, ⟨some ⟨bb, oo, none⟩, dX, 3, ints U⟩] ∧ Own wr w.heap.size 3 a1 c1 (ints (partS S G1)) ∧ Own wr w.heap.size 3 b1 d1 (ints (partM U G1)) ∧ Own wr w.heap.size 3 a2 c2 (ints (partS S G2)) ∧ Own wr w.heap.size 3 b2 d2 (ints (partM U G2)))
        case atStart => exact ⟨0, none, none, none, none, 0, 0, 0, 0, [], [], Nat.zero_le _, rfl, rfl, rfl, rfl, HO.out, H10.out, Own.nil _ _ _, Own.nil _ _ _, Own.nil _ _ _, Own.nil _ _ _⟩
        case round =>
          obtain ⟨i, a1, b1, a2, b2, c1, d1, c2, d2, G1, G2, hi, rfl, rfl, hg1, hg2, ho, hh, o1, o2, o3, o4⟩ := hrel
          replace HO := Lib.hid ho
          have Hh := Lib.hid hh
          have HG12 := Lib.hid (And.intro hg1 hg2)
          have HOs := Lib.hid (And.intro (And.intro o1 o2) (And.intro o3 o4))
          clear ho hh H10 hg1 hg2 o1 o2 o3 o4
          by_cases hil : i < gs.length
          · obtain ⟨b8, o8, rfl, _, _, hrow⟩ := HO.out.open (by rw [List.length_map]; omega)
            obtain ⟨a', c', hci, hro⟩ := hrow i (nats (gs.getD i [])) (by rw [List.getElem?_map, getD_some (d := []) hil]; rfl)
            rw [nats_length] at hci
            have HPi := Lib.hid (HP.out i hil)
            have hgn := HGn.out i hil
            have Hgx := Lib.hid (selG_take x4 hil)
            have Hgy := Lib.hid (selG_take y4 hil)
            have HGa := Lib.hid hro
            generalize gs.getD i [] = Gi at *
            clear hrow hro
            rw [HG12.out.1] at Hgx
            rw [HG12.out.2] at Hgy
            have Hgn := Lib.hid hgn
            have HcX : Hid (∀ W', IntsAt W' a' (nats Gi) → Calls Try.prog 65 #[.slice a' Gi.length c', .int .i64 (x4 : Int)] W' fun e w' => e = .returned (.bool (decide (x4 ∈ Gi))) ∧ w' = W') := Lib.hid fun W' h => in_nats a' c' Gi x4 W' Hgn.out.2 h
            have HcY : Hid (∀ W', IntsAt W' a' (nats Gi) → Calls Try.prog 65 #[.slice a' Gi.length c', .int .i64 (y4 : Int)] W' fun e w' => e = .returned (.bool (decide (y4 ∈ Gi))) ∧ w' = W') := Lib.hid fun W' h => in_nats a' c' Gi y4 W' Hgn.out.2 h
            clear hgn HG12
            go_wp2_with fail
            refine (HcX.out wr HGa.out.ints).mono ?_
            rintro e w1 ⟨rfl, hw⟩
            subst hw
            clear HcX
            obtain ⟨Gn, hGn⟩ : ∃ Gn, Gn = if x4 ∈ Gi then Gi else G1 := ⟨_, rfl⟩
            have HCi := Lib.hid hci
            clear hci
            go_upto_if 61 with fail
            go_cut [] (fun wx => ∃ (a1 b1 : Option Addr) (c1 d1 : Nat), OwnRows wx w.heap.size (some ⟨b8, o8, none⟩) cP (gs.map nats) ∧ wx.cell? ⟨b8, o8 + i, none⟩ = some (.slice a' Gi.length c') ∧ Own wx w.heap.size 3 a' c' (ints (nats Gi)) ∧ HH w wx [(w.heap.size, rowO 24 [.slice aX n cX, .slice (some ⟨bb, oo, none⟩) N dX, .int .i64 L]), (w.heap.size + 1, rowO 24 [.slice none 0 0, .slice none 0 0, .int .i64 0]), (w.heap.size + 2, rowO 24 [.slice none 0 0, .slice none 0 0, .int .i64 0]), (s, rowO 24 [.slice a1 Gn.length c1, .slice b1 (4 * Gn.length) d1, .int .i64 0]), (s + 1, rowO 24 [.slice a2 G2.length c2, .slice b2 (4 * G2.length) d2, .int .i64 0])] [⟨aX, cX, 3, ints S⟩, ⟨some ⟨bb, oo, none⟩, dX, 3, ints U⟩] ∧ Own wx w.heap.size 3 a1 c1 (ints (partS S Gn)) ∧ Own wx w.heap.size 3 b1 d1 (ints (partM U Gn)) ∧ Own wx w.heap.size 3 a2 c2 (ints (partS S G2)) ∧ Own wx w.heap.size 3 b2 d2 (ints (partM U G2)))
            case first =>
              by_cases hcx : x4 ∈ Gi
              · rw [if_pos hcx] at hGn
                have HGn := Lib.hid hGn
                clear hGn
                have tx : decide (x4 ∈ Gi) = true := decide_eq_true hcx
                go_upto_region 11 with fail
                have hne8 : b8 ≠ s := by
                  obtain ⟨vs, hown, _⟩ := HO.out
                  exact hown.ne (Hh.out.row (k := 3) rfl) (by decide) _ rfl
                have HKp : Hid (∀ (W' : World) (u0 u1 u2 : Value), W'.cell? ⟨b8, o8 + i, none⟩ = some (.slice a' Gi.length c') → (((W'.setCell ⟨s, 0, none⟩ u0).setCell ⟨s, 1, none⟩ u1).setCell ⟨s, 2, none⟩ u2).cell? ⟨b8, o8 + i, none⟩ = some (.slice a' Gi.length c')) := Lib.hid fun W' u0 u1 u2 h => by
                  rw [cell_keptB (Below.heap_setCell _ ⟨s, 2, none⟩ u2 b8 hne8), cell_keptB (Below.heap_setCell _ ⟨s, 1, none⟩ u1 b8 hne8), cell_keptB (Below.heap_setCell _ ⟨s, 0, none⟩ u0 b8 hne8)]; exact h
                clear hne8
                have D0 := Lib.hid Hh.out.drew
                have Q0 : Hid (w1.drew.cell? ⟨w.heap.size, 0, none⟩ = some (.slice aX n cX) ∧ w1.drew.cell? ⟨w.heap.size, 1, none⟩ = some (.slice (some ⟨bb, oo, none⟩) N dX) ∧ w1.drew.cell? ⟨w.heap.size, 2, none⟩ = some (.int .i64 L) ∧ w1.drew.cell? ⟨b8, o8 + i, none⟩ = some (.slice a' Gi.length c')) := Lib.hid ⟨D0.out.cell (k := 0) (i := 0) rfl rfl, D0.out.cell (k := 0) (i := 1) rfl rfl, D0.out.cell (k := 0) (i := 2) rfl rfl, HCi.out⟩
                have HO0 := Lib.hid (HO.out.later (Below.refl _ _).drew (Nat.le_refl _))
                have HGa0 := Lib.hid (HGa.out.later (Below.refl _ _).drew (Nat.le_refl _))
                have HOs3 := Lib.hid (HOs.out.2.1.later (Below.refl _ _).drew (Nat.le_refl _))
                have HOs4 := Lib.hid (HOs.out.2.2.later (Below.refl _ _).drew (Nat.le_refl _))
                have hcl := World.block_lt_of_cell? _ _ HCi.out
                have Hcl : Hid (b8 < w1.drew.heap.size) := Lib.hid hcl
                have hq0 := Q0.out
                clear hcl
                go_region_held3 (fun W' => W'.cell? ⟨w.heap.size, 0, none⟩ = some (.slice aX n cX) ∧ W'.cell? ⟨w.heap.size, 1, none⟩ = some (.slice (some ⟨bb, oo, none⟩) N dX) ∧ W'.cell? ⟨w.heap.size, 2, none⟩ = some (.int .i64 L) ∧ W'.cell? ⟨b8, o8 + i, none⟩ = some (.slice a' Gi.length c'))
                  (first
                    | with_reducible exact Q0.out
                    | with_reducible exact Q1.out
                    | with_reducible exact Q9.out)
                  (first
                    | ((with_reducible refine (HPi.out aX (some ⟨bb, oo, none⟩) a' cX dX c' _ (D0.out.sl (k := 0) rfl).ints (D0.out.sl (k := 1) rfl).ints HGa0.out.ints).mono ?_); rintro e w5 ⟨a5, b5, c5, d5, rfl, ho1, ho2, hb⟩; have H5 := Lib.hid (D0.out.call hb); have Q1 : Hid (w5.cell? ⟨w.heap.size, 0, none⟩ = some (.slice aX n cX) ∧ w5.cell? ⟨w.heap.size, 1, none⟩ = some (.slice (some ⟨bb, oo, none⟩) N dX) ∧ w5.cell? ⟨w.heap.size, 2, none⟩ = some (.int .i64 L) ∧ w5.cell? ⟨b8, o8 + i, none⟩ = some (.slice a' Gi.length c')) := Lib.hid ⟨H5.out.cell (k := 0) (i := 0) rfl rfl, H5.out.cell (k := 0) (i := 1) rfl rfl, H5.out.cell (k := 0) (i := 2) rfl rfl, (hb.cell (p := ⟨b8, o8 + i, none⟩) Hcl.out).trans Q0.out.2.2.2⟩; have hr := H5.out.row (k := 3) rfl; have HN1 := Lib.hid ((ho1.mono D0.out.below.size).box3 hr (.slice a5 Gi.length c5) (.slice b5 (4 * Gi.length) d5) (.int .i64 0)); have HN2 := Lib.hid ((ho2.mono D0.out.below.size).box3 hr (.slice a5 Gi.length c5) (.slice b5 (4 * Gi.length) d5) (.int .i64 0)); have HN3 := Lib.hid ((HOs3.out.later hb (Nat.le_refl _)).box3 hr (.slice a5 Gi.length c5) (.slice b5 (4 * Gi.length) d5) (.int .i64 0)); have HN4 := Lib.hid ((HOs4.out.later hb (Nat.le_refl _)).box3 hr (.slice a5 Gi.length c5) (.slice b5 (4 * Gi.length) d5) (.int .i64 0)); have HO5 := Lib.hid ((HO0.out.later hb (Nat.le_refl _)).box3 hr (.slice a5 Gi.length c5) (.slice b5 (4 * Gi.length) d5) (.int .i64 0)); have HGa5 := Lib.hid ((HGa0.out.later hb (Nat.le_refl _)).box3 hr (.slice a5 Gi.length c5) (.slice b5 (4 * Gi.length) d5) (.int .i64 0)); clear hr; have hd0 := H5.out.cell (k := 3) (i := 0) rfl rfl; have hf0 := H5.out.frozen (k := 3) rfl 0; have hd1 := H5.out.cell (k := 3) (i := 1) rfl rfl; have hf1 := H5.out.frozen (k := 3) rfl 1; have hd2 := H5.out.cell (k := 3) (i := 2) rfl rfl; have hf2 := H5.out.frozen (k := 3) rfl 2; have H9 := Lib.hid (((H5.out.set (k := 3) rfl 0 (.slice a5 Gi.length c5)).set (k := 3) rfl 1 (.slice b5 (4 * Gi.length) d5)).set (k := 3) rfl 2 (.int .i64 0)); have HCi5 := Lib.hid (HKp.out w5 (.slice a5 Gi.length c5) (.slice b5 (4 * Gi.length) d5) (.int .i64 0) Q1.out.2.2.2); have Q9 : Hid ((((w5.setCell ⟨s, 0, none⟩ (.slice a5 Gi.length c5)).setCell ⟨s, 1, none⟩ (.slice b5 (4 * Gi.length) d5)).setCell ⟨s, 2, none⟩ (.int .i64 0)).cell? ⟨w.heap.size, 0, none⟩ = some (.slice aX n cX) ∧ (((w5.setCell ⟨s, 0, none⟩ (.slice a5 Gi.length c5)).setCell ⟨s, 1, none⟩ (.slice b5 (4 * Gi.length) d5)).setCell ⟨s, 2, none⟩ (.int .i64 0)).cell? ⟨w.heap.size, 1, none⟩ = some (.slice (some ⟨bb, oo, none⟩) N dX) ∧ (((w5.setCell ⟨s, 0, none⟩ (.slice a5 Gi.length c5)).setCell ⟨s, 1, none⟩ (.slice b5 (4 * Gi.length) d5)).setCell ⟨s, 2, none⟩ (.int .i64 0)).cell? ⟨w.heap.size, 2, none⟩ = some (.int .i64 L) ∧ (((w5.setCell ⟨s, 0, none⟩ (.slice a5 Gi.length c5)).setCell ⟨s, 1, none⟩ (.slice b5 (4 * Gi.length) d5)).setCell ⟨s, 2, none⟩ (.int .i64 0)).cell? ⟨b8, o8 + i, none⟩ = some (.slice a' Gi.length c')) := Lib.hid ⟨H9.out.cell (k := 0) (i := 0) rfl rfl, H9.out.cell (k := 0) (i := 1) rfl rfl, H9.out.cell (k := 0) (i := 2) rfl rfl, HCi5.out⟩; clear ho1 ho2 hb))
                clear hd0 hd1 hd2 hf0 hf1 hf2 hq0
                go_wp2_with fail
                go_meet
                rw [HGn.out]
                exact ⟨a5, b5, c5, d5, HO5.out, HCi5.out, HGa5.out, H9.out, HN1.out, HN2.out, HN3.out, HN4.out⟩
              · rw [if_neg hcx] at hGn
                have HGn := Lib.hid hGn
                clear hGn
                have tx : decide (x4 ∈ Gi) = false := decide_eq_false hcx
                go_wp2_with fail
                go_meet
                rw [HGn.out]
                exact ⟨a1, b1, c1, d1, HO.out, HCi.out, HGa.out, Hh.out, HOs.out.1.1, HOs.out.1.2, HOs.out.2.1, HOs.out.2.2⟩
            case rest =>
              obtain ⟨a1, b1, c1, d1, ho, hci, hga, hh, o1, o2, o3, o4⟩ := hcut
              replace HO := Lib.hid ho
              replace HCi := Lib.hid hci
              replace Hh := Lib.hid hh
              replace HGa := Lib.hid hga
              replace HOs := Lib.hid (And.intro (And.intro o1 o2) (And.intro o3 o4))
              clear ho hh hga o1 o2 o3 o4
              rw [hGn, ← Hgx.out] at Hh HOs
              clear hGn
              obtain ⟨G3, hG3⟩ : ∃ G3, selG (gs.take (i + 1)) x4 = G3 := ⟨_, rfl⟩
              rw [hG3] at Hh HOs
              have HG3 := Lib.hid hG3
              clear hG3 Hgx
              go_wp2_with fail
              clear hci
              refine (HcY.out wc HGa.out.ints).mono ?_
              rintro e w1 ⟨rfl, hw⟩
              subst hw
              clear HcY
              by_cases hcx : y4 ∈ Gi
              · have tx : decide (y4 ∈ Gi) = true := decide_eq_true hcx
                have HG4 : Hid (selG (gs.take (i + 1)) y4 = Gi) := Lib.hid (by rw [Hgy.out, if_pos hcx])
                clear Hgy
                go_upto_region 13 with fail
                have hne8 : b8 ≠ s + 1 := by
                  obtain ⟨vs, hown, _⟩ := HO.out
                  exact hown.ne (Hh.out.row (k := 4) rfl) (by decide) _ rfl
                have HKp : Hid (∀ (W' : World) (u0 u1 u2 : Value), W'.cell? ⟨b8, o8 + i, none⟩ = some (.slice a' Gi.length c') → (((W'.setCell ⟨s + 1, 0, none⟩ u0).setCell ⟨s + 1, 1, none⟩ u1).setCell ⟨s + 1, 2, none⟩ u2).cell? ⟨b8, o8 + i, none⟩ = some (.slice a' Gi.length c')) := Lib.hid fun W' u0 u1 u2 h => by
                  rw [cell_keptB (Below.heap_setCell _ ⟨s + 1, 2, none⟩ u2 b8 hne8), cell_keptB (Below.heap_setCell _ ⟨s + 1, 1, none⟩ u1 b8 hne8), cell_keptB (Below.heap_setCell _ ⟨s + 1, 0, none⟩ u0 b8 hne8)]; exact h
                clear hne8
                have D0 := Lib.hid Hh.out.drew
                have Q0 : Hid (w1.drew.cell? ⟨w.heap.size, 0, none⟩ = some (.slice aX n cX) ∧ w1.drew.cell? ⟨w.heap.size, 1, none⟩ = some (.slice (some ⟨bb, oo, none⟩) N dX) ∧ w1.drew.cell? ⟨w.heap.size, 2, none⟩ = some (.int .i64 L) ∧ w1.drew.cell? ⟨b8, o8 + i, none⟩ = some (.slice a' Gi.length c')) := Lib.hid ⟨D0.out.cell (k := 0) (i := 0) rfl rfl, D0.out.cell (k := 0) (i := 1) rfl rfl, D0.out.cell (k := 0) (i := 2) rfl rfl, HCi.out⟩
                have HO0 := Lib.hid (HO.out.later (Below.refl _ _).drew (Nat.le_refl _))
                have HGa0 := Lib.hid (HGa.out.later (Below.refl _ _).drew (Nat.le_refl _))
                have HOs3 := Lib.hid (HOs.out.1.1.later (Below.refl _ _).drew (Nat.le_refl _))
                have HOs4 := Lib.hid (HOs.out.1.2.later (Below.refl _ _).drew (Nat.le_refl _))
                have hcl := World.block_lt_of_cell? _ _ HCi.out
                have Hcl : Hid (b8 < w1.drew.heap.size) := Lib.hid hcl
                have hq0 := Q0.out
                clear hcl
                go_region_held3 (fun W' => W'.cell? ⟨w.heap.size, 0, none⟩ = some (.slice aX n cX) ∧ W'.cell? ⟨w.heap.size, 1, none⟩ = some (.slice (some ⟨bb, oo, none⟩) N dX) ∧ W'.cell? ⟨w.heap.size, 2, none⟩ = some (.int .i64 L) ∧ W'.cell? ⟨b8, o8 + i, none⟩ = some (.slice a' Gi.length c'))
                  (first
                    | with_reducible exact Q0.out
                    | with_reducible exact Q1.out
                    | with_reducible exact Q9.out)
                  (first
                    | ((with_reducible refine (HPi.out aX (some ⟨bb, oo, none⟩) a' cX dX c' _ (D0.out.sl (k := 0) rfl).ints (D0.out.sl (k := 1) rfl).ints HGa0.out.ints).mono ?_); rintro e w5 ⟨a5, b5, c5, d5, rfl, ho1, ho2, hb⟩; have H5 := Lib.hid (D0.out.call hb); have Q1 : Hid (w5.cell? ⟨w.heap.size, 0, none⟩ = some (.slice aX n cX) ∧ w5.cell? ⟨w.heap.size, 1, none⟩ = some (.slice (some ⟨bb, oo, none⟩) N dX) ∧ w5.cell? ⟨w.heap.size, 2, none⟩ = some (.int .i64 L) ∧ w5.cell? ⟨b8, o8 + i, none⟩ = some (.slice a' Gi.length c')) := Lib.hid ⟨H5.out.cell (k := 0) (i := 0) rfl rfl, H5.out.cell (k := 0) (i := 1) rfl rfl, H5.out.cell (k := 0) (i := 2) rfl rfl, (hb.cell (p := ⟨b8, o8 + i, none⟩) Hcl.out).trans Q0.out.2.2.2⟩; have hr := H5.out.row (k := 4) rfl; have HN1 := Lib.hid ((ho1.mono D0.out.below.size).box3 hr (.slice a5 Gi.length c5) (.slice b5 (4 * Gi.length) d5) (.int .i64 0)); have HN2 := Lib.hid ((ho2.mono D0.out.below.size).box3 hr (.slice a5 Gi.length c5) (.slice b5 (4 * Gi.length) d5) (.int .i64 0)); have HN3 := Lib.hid ((HOs3.out.later hb (Nat.le_refl _)).box3 hr (.slice a5 Gi.length c5) (.slice b5 (4 * Gi.length) d5) (.int .i64 0)); have HN4 := Lib.hid ((HOs4.out.later hb (Nat.le_refl _)).box3 hr (.slice a5 Gi.length c5) (.slice b5 (4 * Gi.length) d5) (.int .i64 0)); have HO5 := Lib.hid ((HO0.out.later hb (Nat.le_refl _)).box3 hr (.slice a5 Gi.length c5) (.slice b5 (4 * Gi.length) d5) (.int .i64 0)); have HGa5 := Lib.hid ((HGa0.out.later hb (Nat.le_refl _)).box3 hr (.slice a5 Gi.length c5) (.slice b5 (4 * Gi.length) d5) (.int .i64 0)); clear hr; have hd0 := H5.out.cell (k := 4) (i := 0) rfl rfl; have hf0 := H5.out.frozen (k := 4) rfl 0; have hd1 := H5.out.cell (k := 4) (i := 1) rfl rfl; have hf1 := H5.out.frozen (k := 4) rfl 1; have hd2 := H5.out.cell (k := 4) (i := 2) rfl rfl; have hf2 := H5.out.frozen (k := 4) rfl 2; have H9 := Lib.hid (((H5.out.set (k := 4) rfl 0 (.slice a5 Gi.length c5)).set (k := 4) rfl 1 (.slice b5 (4 * Gi.length) d5)).set (k := 4) rfl 2 (.int .i64 0)); have HCi5 := Lib.hid (HKp.out w5 (.slice a5 Gi.length c5) (.slice b5 (4 * Gi.length) d5) (.int .i64 0) Q1.out.2.2.2); have Q9 : Hid ((((w5.setCell ⟨s + 1, 0, none⟩ (.slice a5 Gi.length c5)).setCell ⟨s + 1, 1, none⟩ (.slice b5 (4 * Gi.length) d5)).setCell ⟨s + 1, 2, none⟩ (.int .i64 0)).cell? ⟨w.heap.size, 0, none⟩ = some (.slice aX n cX) ∧ (((w5.setCell ⟨s + 1, 0, none⟩ (.slice a5 Gi.length c5)).setCell ⟨s + 1, 1, none⟩ (.slice b5 (4 * Gi.length) d5)).setCell ⟨s + 1, 2, none⟩ (.int .i64 0)).cell? ⟨w.heap.size, 1, none⟩ = some (.slice (some ⟨bb, oo, none⟩) N dX) ∧ (((w5.setCell ⟨s + 1, 0, none⟩ (.slice a5 Gi.length c5)).setCell ⟨s + 1, 1, none⟩ (.slice b5 (4 * Gi.length) d5)).setCell ⟨s + 1, 2, none⟩ (.int .i64 0)).cell? ⟨w.heap.size, 2, none⟩ = some (.int .i64 L) ∧ (((w5.setCell ⟨s + 1, 0, none⟩ (.slice a5 Gi.length c5)).setCell ⟨s + 1, 1, none⟩ (.slice b5 (4 * Gi.length) d5)).setCell ⟨s + 1, 2, none⟩ (.int .i64 0)).cell? ⟨b8, o8 + i, none⟩ = some (.slice a' Gi.length c')) := Lib.hid ⟨H9.out.cell (k := 0) (i := 0) rfl rfl, H9.out.cell (k := 0) (i := 1) rfl rfl, H9.out.cell (k := 0) (i := 2) rfl rfl, HCi5.out⟩; clear ho1 ho2 hb))
                clear hd0 hd1 hd2 hf0 hf1 hf2 hq0
                go_wp2_with fail
                go_roundg (gs.length - (i + 1))
                case measure => omega
                case rel => exact ⟨i + 1, a1, b1, a5, b5, c1, d1, c5, d5, G3, Gi, by omega, rfl, by go_num, HG3.out, HG4.out, HO5.out, H9.out, HN3.out, HN4.out, HN1.out, HN2.out⟩
              · have tx : decide (y4 ∈ Gi) = false := decide_eq_false hcx
                have HG4 : Hid (selG (gs.take (i + 1)) y4 = G2) := Lib.hid (by rw [Hgy.out, if_neg hcx])
                clear Hgy
                go_wp2_with fail
                go_roundg (gs.length - (i + 1))
                case measure => omega
                case rel => exact ⟨i + 1, a1, b1, a2, b2, c1, d1, c2, d2, G3, G2, by omega, rfl, by go_num, HG3.out, HG4.out, HO.out, Hh.out, HOs.out.1.1, HOs.out.1.2, HOs.out.2.1, HOs.out.2.2⟩
          · obtain rfl : i = gs.length := by omega
            have k40 := Hh.out.cell (k := 3) (i := 0) rfl rfl
            have k41 := Hh.out.cell (k := 3) (i := 1) rfl rfl
            have k42 := Hh.out.cell (k := 3) (i := 2) rfl rfl
            have k50 := Hh.out.cell (k := 4) (i := 0) rfl rfl
            have k51 := Hh.out.cell (k := 4) (i := 1) rfl rfl
            have k52 := Hh.out.cell (k := 4) (i := 2) rfl rfl
            have f10 := Hh.out.frozen (k := 1) rfl 0
            have f11 := Hh.out.frozen (k := 1) rfl 1
            have f12 := Hh.out.frozen (k := 1) rfl 2
            have f20 := Hh.out.frozen (k := 2) rfl 0
            have f21 := Hh.out.frozen (k := 2) rfl 1
            have f22 := Hh.out.frozen (k := 2) rfl 2
            have k10 := Hh.out.cell (k := 1) (i := 0) rfl rfl
            have k11 := Hh.out.cell (k := 1) (i := 1) rfl rfl
            have k12 := Hh.out.cell (k := 1) (i := 2) rfl rfl
            have k20 := Hh.out.cell (k := 2) (i := 0) rfl rfl
            have k21 := Hh.out.cell (k := 2) (i := 1) rfl rfl
            have k22 := Hh.out.cell (k := 2) (i := 2) rfl rfl
            have n1 : ¬ s = w.heap.size := by omega
            have n2 : ¬ s = w.heap.size + 1 := by omega
            have n3 : ¬ s = w.heap.size + 2 := by omega
            have n4 : ¬ s + 1 = w.heap.size + 1 := by omega
            have n5 : ¬ s + 1 = w.heap.size + 2 := by omega
            have n6 : ¬ w.heap.size + 1 = s := by omega
            have n7 : ¬ w.heap.size + 2 = s := by omega
            have n8 : ¬ w.heap.size + 2 = s + 1 := by omega
            have n9 : ¬ w.heap.size = s := by omega
            go_upto_region 14 with fail
            go_region
            have H9 := Lib.hid ((((((((Hh.out.set (k := 1) rfl 0 (.slice a1 G1.length c1)).set (k := 1) rfl 1 (.slice b1 (4 * G1.length) d1)).set (k := 1) rfl 2 (.int .i64 0)).set (k := 2) rfl 0 (.slice a2 G2.length c2)).set (k := 2) rfl 1 (.slice b2 (4 * G2.length) d2)).set (k := 2) rfl 2 (.int .i64 0))).drew)
            have hr1 := Hh.out.row (k := 1) rfl
            have hr2 := (((Hh.out.set (k := 1) rfl 0 (.slice a1 G1.length c1)).set (k := 1) rfl 1 (.slice b1 (4 * G1.length) d1)).set (k := 1) rfl 2 (.int .i64 0)).row (k := 2) rfl
            have r1 := Lib.hid (((HOs.out.1.1.box3 hr1 (.slice a1 G1.length c1) (.slice b1 (4 * G1.length) d1) (.int .i64 0)).box3 hr2 (.slice a2 G2.length c2) (.slice b2 (4 * G2.length) d2) (.int .i64 0)).later (Below.refl _ _).drew (Nat.le_refl _))
            have r2 := Lib.hid (((HOs.out.1.2.box3 hr1 (.slice a1 G1.length c1) (.slice b1 (4 * G1.length) d1) (.int .i64 0)).box3 hr2 (.slice a2 G2.length c2) (.slice b2 (4 * G2.length) d2) (.int .i64 0)).later (Below.refl _ _).drew (Nat.le_refl _))
            have r3 := Lib.hid (((HOs.out.2.1.box3 hr1 (.slice a1 G1.length c1) (.slice b1 (4 * G1.length) d1) (.int .i64 0)).box3 hr2 (.slice a2 G2.length c2) (.slice b2 (4 * G2.length) d2) (.int .i64 0)).later (Below.refl _ _).drew (Nat.le_refl _))
            have r4 := Lib.hid (((HOs.out.2.2.box3 hr1 (.slice a1 G1.length c1) (.slice b1 (4 * G1.length) d1) (.int .i64 0)).box3 hr2 (.slice a2 G2.length c2) (.slice b2 (4 * G2.length) d2) (.int .i64 0)).later (Below.refl _ _).drew (Nat.le_refl _))
            clear k40 k41 k42 k50 k51 k52 f10 f11 f12 f20 f21 f22 k10 k11 k12 k20 k21 k22 n1 n2 n3 n4 n5 n6 n7 n8 n9 hr1 hr2
            have hF0 := H9.out.cell (k := 1) (i := 0) rfl rfl
            have hF1 := H9.out.cell (k := 1) (i := 1) rfl rfl
            have hF2 := H9.out.cell (k := 1) (i := 2) rfl rfl
            have hF3 := H9.out.cell (k := 2) (i := 0) rfl rfl
            have hF4 := H9.out.cell (k := 2) (i := 1) rfl rfl
            have hF5 := H9.out.cell (k := 2) (i := 2) rfl rfl
            go_wp2_with fail
            refine bodyPost_ret (v := .tuple #[.agg #[.slice a1 G1.length c1, .slice b1 (4 * G1.length) d1, .int .i64 0], .agg #[.slice a2 G2.length c2, .slice b2 (4 * G2.length) d2, .int .i64 0]]) (by simp [results, Try.results25, go_sem, hF0, hF1, hF2, hF3, hF4, hF5]) rfl ?_
            have hg := HG12.out
            rw [List.take_of_length_le (Nat.le_refl _)] at hg
            rw [hg.1, hg.2]
            skip
            rw [partS_len, partM_len, partS_len, partM_len]
            exact ⟨a1, b1, c1, d1, a2, b2, c2, d2, rfl, r1.out, r2.out, r3.out, r4.out, H9.out.below⟩
end Go.Proofs.Ytmjoijfafachhaa
