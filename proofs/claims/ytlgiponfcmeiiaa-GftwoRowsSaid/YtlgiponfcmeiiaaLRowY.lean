/- The walk of the law GftwoRows: the good way. -/
import Derived.Test.YtlgiponfcmeiiaaLRowA
namespace Go.Proofs.Ytlgiponfcmeiiaa
open Go Go.RowKit
set_option maxRecDepth 100000 in
set_option maxHeartbeats 8000000 in
theorem lrow_y (n : Nat) (xs : List Nat) (a : Option Addr) (c : Nat) (p q : Nat) (w : World) (hp : p < 256) (hq : q < 256) (hs : smallB (n : Int) (tabN n xs) = true) (hn : 2 ≤ xs.length) (h30 : xs.length ≤ 30) (hn3 : n ≤ 39) (hxl : ∀ x ∈ xs, x < 2 ^ n) (hT : TabAt w a (tabN n xs)) :
    Calls Try.prog 4 #[.int .i64 (n : Int), .slice a xs.length c, .int .u8 (p : Int), .int .u8 (q : Int)] w fun e w' => e = .returned (.bool true) ∧ Below w.heap.size w w' := by
  have HS1 : Hid (∀ W', Below w.heap.size w W' → Calls Try.prog 12 #[.int .i64 (n : Int), .slice a xs.length c] W' fun e w' => e = .returned (.int .i64 (sI (smallB (n : Int) (tabN n xs)))) ∧ Below W'.heap.size W' w') := Lib.hid fun W' h => by
    have hq := small_any (n : Int) (tabN n xs) a c W' (hT.later h)
    rw [tabN_len] at hq
    exact hq
  rw [hs, show sI true = 1 from rfl] at HS1
  have HV : Hid (∀ W', Below w.heap.size w W' → Calls Try.prog 16 #[.agg #[.int .i64 (n : Int), .slice a xs.length c]] W' fun e w' => e = .returned (.bool true) ∧ Below W'.heap.size W' w') := Lib.hid fun W' h => valid_tab n xs (by omega) (by omega) a c W' (hT.later h)
  have HR : Hid (∀ W', Below w.heap.size w W' → Calls Try.prog 14 #[.agg #[.int .i64 (n : Int), .slice a xs.length c]] W' fun e w' => e = .returned (.tuple #[.int .i64 (rk xs : Nat), .int .i64 0]) ∧ Below W'.heap.size W' w') := Lib.hid fun W' h => rank_yes n xs hxl (by omega) (by omega) a c W' (hT.later h)
  have d1 : decide ((xs.length : Int) < 2) = false := decide_eq_false (by omega)
  have d2 : decide (xs.length < 2) = false := decide_eq_false (by omega)
  have d3 : decide (39 < (n : Int)) = false := decide_eq_false (by omega)
  have d4 : decide (39 < n) = false := decide_eq_false (by omega)
  -- the two rows
  obtain ⟨i, j, k, m1, m2, hiL, hkL, hik, e1, e2, e3, e4, e5, e6⟩ := two_rows p q xs.length hn h30
  have Hik := Lib.hid hik
  clear hik
  obtain ⟨b, o, vs, rfl, hbw, hrv, hva, hvl, hv1, hvr⟩ := hT.vals (by omega)
  have HVa := Lib.hid hva
  have Hvl := Lib.hid hvl
  have Hv1 := Lib.hid hv1
  obtain ⟨ai, ci, hvi, hci, hIi⟩ := hvr i hiL
  obtain ⟨ak, ck, hvk, hck, hIk⟩ := hvr k hkL
  have HKS : Hid (∀ W', Below w.heap.size w W' → W'.cell? ⟨b, o + i, none⟩ = some (.slice ai (rowOf n (xs.getD i 0)).length ci) ∧ W'.cell? ⟨b, o + k, none⟩ = some (.slice ak (rowOf n (xs.getD k 0)).length ck)) := Lib.hid fun W' h => ⟨vat_cell hva h hvi, vat_cell hva h hvk⟩
  have HP : Hid (∀ W', Below w.heap.size w W' → Calls Try.prog 19 #[.slice ai (rowOf n (xs.getD i 0)).length ci, .slice ak (rowOf n (xs.getD k 0)).length ck, .int .i64 (n : Int)] W' fun e w' => ∃ A E, e = .returned (.slice A (rowOf n (xs.getD i 0 ^^^ xs.getD k 0)).length E) ∧ Own w' W'.heap.size 3 A E (ints (rowOf n (xs.getD i 0 ^^^ xs.getD k 0))) ∧ Below W'.heap.size W' w') := Lib.hid fun W' h => plus_any n _ _ (by omega) ai ak ci ck W' (hIi.later h) (hIk.later h)
  have hlz : (rowOf n (xs.getD i 0 ^^^ xs.getD k 0)).length ≤ 39 := Nat.le_trans (rowOf_len _ _) hn3
  have hli : (rowOf n (xs.getD i 0)).length ≤ 39 := Nat.le_trans (rowOf_len _ _) hn3
  have HIi := Lib.hid hIi
  -- the four tables
  have hxi : ∀ t, xs.getD t 0 < 2 ^ n := fun t => getD_lt hxl t
  obtain ⟨sx, hsx⟩ : ∃ sx, sx = xs.set i (xs.getD i 0 ^^^ xs.getD k 0) := ⟨_, rfl⟩
  obtain ⟨wx, hwx⟩ : ∃ wx, wx = (xs.set i (xs.getD k 0)).set k (xs.getD i 0) := ⟨_, rfl⟩
  obtain ⟨tx, htx⟩ : ∃ tx, tx = xs ++ [xs.getD i 0] := ⟨_, rfl⟩
  obtain ⟨fx, hfx⟩ : ∃ fx, fx = tabN n xs ++ [rowOf n (xs.getD i 0) ++ [(n : Int)]] := ⟨_, rfl⟩
  have hsl : sx.length = xs.length := by rw [hsx, List.length_set]
  have hwl : wx.length = xs.length := by rw [hwx, List.length_set, List.length_set]
  have HR1 : Hid (∀ (A : Option Addr) (E : Nat) W', TabAt W' A (tabN n sx) → Calls Try.prog 14 #[.agg #[.int .i64 (n : Int), .slice A xs.length E]] W' fun e w' => e = .returned (.tuple #[.int .i64 (rk xs : Nat), .int .i64 0]) ∧ Below W'.heap.size W' w') := Lib.hid fun A E W' h => by
    have hq := rank_yes n sx (fun x hx => by
      rw [hsx] at hx
      rcases mem_set_or hx with e | e
      · rw [e]; exact Nat.xor_lt_two_pow (hxi _) (hxi _)
      · exact hxl x e) (by omega) (by omega) A E W' h
    rw [hsl, show rk sx = rk xs by rw [hsx]; exact rk_sum hiL hkL Hik.out] at hq
    exact hq
  have HR2 : Hid (∀ (A : Option Addr) (E : Nat) W', TabAt W' A (tabN n wx) → Calls Try.prog 14 #[.agg #[.int .i64 (n : Int), .slice A xs.length E]] W' fun e w' => e = .returned (.tuple #[.int .i64 (rk xs : Nat), .int .i64 0]) ∧ Below W'.heap.size W' w') := Lib.hid fun A E W' h => by
    have hq := rank_yes n wx (fun x hx => by
      rw [hwx] at hx
      rcases mem_set_or hx with e | e
      · rw [e]; exact hxi _
      · rcases mem_set_or e with g | g
        · rw [g]; exact hxi _
        · exact hxl x g) (by omega) (by omega) A E W' h
    rw [hwl, show rk wx = rk xs by rw [hwx]; exact rk_swap hiL hkL] at hq
    exact hq
  have HR3 : Hid (∀ (A : Option Addr) (E : Nat) W', TabAt W' A (tabN n tx) → Calls Try.prog 14 #[.agg #[.int .i64 (n : Int), .slice A (xs.length + 1) E]] W' fun e w' => e = .returned (.tuple #[.int .i64 (rk xs : Nat), .int .i64 0]) ∧ Below W'.heap.size W' w') := Lib.hid fun A E W' h => by
    rw [htx] at h
    have hq := rank_yes n (xs ++ [xs.getD i 0]) (fun x hx => by
      rcases List.mem_append.1 hx with e | e
      · exact hxl x e
      · rw [List.mem_singleton.1 e]; exact hxi _) (by omega) (by rw [List.length_append, List.length_singleton]; omega) A E W' h
    rw [List.length_append, List.length_singleton, rk_twice hiL] at hq
    exact hq
  have HR4 : Hid (∀ (A : Option Addr) (E : Nat) W', TabAt W' A fx → Calls Try.prog 14 #[.agg #[.int .i64 ((n : Int) + 1), .slice A (xs.length + 1) E]] W' fun e w' => e = .returned (.tuple #[.int .i64 ((rk xs : Nat) + 1), .int .i64 0]) ∧ Below W'.heap.size W' w') := Lib.hid fun A E W' h => by
    have hq := rank_yes (n + 1) (xs ++ [2 ^ n ^^^ xs.getD i 0]) (fun x hx => by
      rcases List.mem_append.1 hx with e | e
      · exact Nat.lt_of_lt_of_le (hxl x e) (Nat.pow_le_pow_right (by omega) (by omega))
      · rw [List.mem_singleton.1 e]; exact Nat.xor_lt_two_pow (Nat.pow_lt_pow_right (by omega) (by omega)) (Nat.lt_of_lt_of_le (hxi _) (Nat.pow_le_pow_right (by omega) (by omega)))) (by omega) (by rw [List.length_append, List.length_singleton]; omega) A E W' (by rw [tabN_snoc, tabN_more hxl, rowOf_fresh (hxi _), ← hfx]; exact h)
    rw [List.length_append, List.length_singleton, rk_fresh hxl (hxi _)] at hq
    exact hq
  have HA1 : Hid (∀ (A A2 : Option Addr) (E2 : Nat) W', Below w.heap.size w W' → (rowOf n (xs.getD i 0 ^^^ xs.getD k 0)).length ≤ E2 → IntsAt W' A2 (rowOf n (xs.getD i 0 ^^^ xs.getD k 0)) → VAt W' A (vs.set i (.slice A2 (rowOf n (xs.getD i 0 ^^^ xs.getD k 0)).length E2)) → TabAt W' A (tabN n sx)) := Lib.hid fun A A2 E2 W' h h1 h2 h3 => by
    rw [hsx, tabN_set]
    exact ((hrv.later h).set i h1 h2).tab h3
  have HA2 : Hid (∀ (A : Option Addr) W', Below w.heap.size w W' → VAt W' A ((vs.set i (.slice ak (rowOf n (xs.getD k 0)).length ck)).set k (.slice ai (rowOf n (xs.getD i 0)).length ci)) → TabAt W' A (tabN n wx)) := Lib.hid fun A W' h h3 => by
    rw [hwx, tabN_set, tabN_set]
    exact (((hrv.later h).set i hck (hIk.later h)).set k hci (hIi.later h)).tab h3
  have HA3 : Hid (∀ (A : Option Addr) W', Below w.heap.size w W' → VAt W' A (vs ++ [.slice ai (rowOf n (xs.getD i 0)).length ci]) → TabAt W' A (tabN n tx)) := Lib.hid fun A W' h h3 => by
    rw [htx, tabN_snoc]
    exact ((hrv.later h).snoc hci (hIi.later h)).tab h3
  have HA4 : Hid (∀ (A A2 : Option Addr) (E2 : Nat) W', Below w.heap.size w W' → (rowOf n (xs.getD i 0)).length + 1 ≤ E2 → IntsAt W' A2 (rowOf n (xs.getD i 0) ++ [(n : Int)]) → VAt W' A (vs ++ [.slice A2 ((rowOf n (xs.getD i 0)).length + 1) E2]) → TabAt W' A fx) := Lib.hid fun A A2 E2 W' h h1 h2 h3 => by
    have hs := (hrv.later h).snoc (a := A2) (c := E2) (row := rowOf n (xs.getD i 0) ++ [(n : Int)]) (by rw [List.length_append]; exact h1) h2
    rw [List.length_append] at hs
    rw [hfx]
    exact hs.tab h3
  clear hs hrv hva hvl hv1 hvr hvi hvk hci hck hIi hIk hxi hsx hwx hsl hwl hxl hT htx hfx
  have hrk := rk_le_len xs
  generalize rk xs = r1 at *
  have Hrow2 : Hid (ints (rowOf n (xs.getD i 0)) ++ [.int .i64 (n : Int)] = ints (rowOf n (xs.getD i 0) ++ [(n : Int)])) := Lib.hid (ints_snoc _ _)
  have Hlz : Hid ((ints (rowOf n (xs.getD i 0 ^^^ xs.getD k 0))).length = (rowOf n (xs.getD i 0 ^^^ xs.getD k 0)).length) := Lib.hid (ints_length _)
  have Hli : Hid ((ints (rowOf n (xs.getD i 0))).length = (rowOf n (xs.getD i 0)).length) := Lib.hid (ints_length _)
  generalize rowOf n (xs.getD i 0 ^^^ xs.getD k 0) = rz at *
  generalize rowOf n (xs.getD i 0) = ri at *
  generalize rowOf n (xs.getD k 0) = rk' at *
  generalize rz.length = lz at *
  generalize ri.length = li at *
  generalize rk'.length = lk at *
  obtain ⟨i6, hi6, hz6, hs6, hb6⟩ := info_parts Try.info36
  obtain ⟨i3, hi3, hz3, hs3, hb3⟩ := info_parts Try.info3
  have Hvl2 : Hid ((([] : List Value) ++ vs).length = xs.length) := Lib.hid (by rw [List.nil_append]; exact Hvl.out)
  go_enter Try.func4, Try.ntmps4
  go_wp2_with fail
  refine (awake_any w).mono ?_
  rintro e w1 ⟨rfl, hb⟩
  have H1 := Lib.hid ((HH.start w).call hb)
  clear hb
  go_wp2_with fail
  refine (matrix_any n xs.length (some ⟨b, o, none⟩) c w1).mono ?_
  rintro e w2 ⟨rfl, hb⟩
  have H2 := Lib.hid ((H1.out.call hb).alloc #[.int .i64 (n : Int), .slice (some ⟨b, o, none⟩) xs.length c] 26 rfl rfl)
  clear hb H1 
  obtain ⟨v2, hv⟩ : ∃ x, x = w2.alloc (.cells #[.int .i64 (n : Int), .slice (some ⟨b, o, none⟩) xs.length c] 26) := ⟨_, rfl⟩
  go_wp2_with fail
  rw [← hv]
  rw [← hv] at H2 
  generalize w2.heap.size = q1 at *
  clear hv
  refine (HS1.out v2 H2.out.below).mono ?_
  rintro e w3 ⟨rfl, hb⟩
  have H3 := Lib.hid (H2.out.call hb)
  clear hb H2 HS1
  have hc0_0 := H3.out.cell (k := 0) (i := 0) rfl rfl
  have hc0_1 := H3.out.cell (k := 0) (i := 1) rfl rfl
  go_wp2_with fail
  clear hc0_0 hc0_1
  refine (HV.out w3 H3.out.below).mono ?_
  rintro e w4 ⟨rfl, hb⟩
  have H4 := Lib.hid (H3.out.call hb)
  clear hb H3 HV
  have hc0_0 := H4.out.cell (k := 0) (i := 0) rfl rfl
  have hc0_1 := H4.out.cell (k := 0) (i := 1) rfl rfl
  go_wp2_with fail
  clear hc0_0 hc0_1
  refine (HR.out w4 H4.out.below).mono ?_
  rintro e w5 ⟨rfl, hb⟩
  have H5 := Lib.hid (H4.out.call hb)
  clear hb H4 HR
  have HB5 := Lib.hid H5.out.below
  clear H5
  obtain ⟨A1, E1, w6, hr1, h6⟩ := copy_rows (HVa.out.later HB5.out) Hvl.out Hv1.out (show xs.length ≤ 1000000 by omega)
  have Hr1 := Lib.hid hr1
  have H6 := Lib.hid h6
  clear hr1 h6
  go_wp2_with (with_reducible refine wpList_append_run rfl (.tmp 70) (.tmp 71) #[22, 22] rfl (.slice (some ⟨w5.heap.size, 0, none⟩) 0 0) (.slice (some ⟨b, o, none⟩) xs.length c) _ _ rfl rfl Hr1.out ?_)
  obtain ⟨bs, os, rfl, _, _, hcs, hfs⟩ := (H6.out.sl (k := 0) rfl).open (by show 0 < vs.length; rw [Hvl.out]; omega)
  clear hcs hfs
  have Hiv : Hid (i < vs.length) := Lib.hid (by rw [Hvl.out]; exact hiL)
  have Hkv : Hid (k < vs.length) := Lib.hid (by rw [Hvl.out]; exact hkL)
  have Hd := Lib.hid H6.out.drew
  go_region_held3 (fun w' => w'.cell? ⟨b, o + i, none⟩ = some (.slice ai li ci) ∧ w'.cell? ⟨b, o + k, none⟩ = some (.slice ak lk ck))
    (first
      | with_reducible exact HKS.out _ (below_of HB5.out Hd.out.below HB5.out.size)
      | with_reducible exact HKS.out _ (below_of HB5.out H7.out.below HB5.out.size)
      | with_reducible exact HKS.out _ (below_of HB5.out H8.out.below HB5.out.size))
    (first
      | ((with_reducible refine (HP.out _ (below_of HB5.out Hd.out.below HB5.out.size)).mono ?_); rintro e w7 ⟨A2, E2, rfl, ho2, hb2⟩; have Ho2 := Lib.hid ho2; have H7 := Lib.hid (Hd.out.addSl hb2 ho2); obtain ⟨b9, o9, e9, _, _, hcs, hfs⟩ := (H7.out.sl (k := 0) rfl).open (Nat.lt_of_le_of_lt (Nat.zero_le _) Hiv.out); cases e9; have hcS := hcs i _ (List.getElem?_eq_getElem Hiv.out); have hfS := hfs (os + i); have H8 := Lib.hid (H7.out.slSet (k := 0) rfl i Hiv.out (.slice A2 lz E2)); clear hcs hfs ho2 hb2))
  clear hcS hfS
  obtain ⟨v8, hv8⟩ : ∃ x, x = w7.setCell ⟨bs, os + i, none⟩ (.slice A2 lz E2) := ⟨_, rfl⟩
  rw [← hv8] at H8
  have HB8 := Lib.hid (below_of HB5.out H8.out.below HB5.out.size)
  have Hs1 : Hid (TabAt v8 (some ⟨bs, os, none⟩) (tabN n sx)) := Lib.hid (HA1.out _ A2 E2 v8 HB8.out (by have := Ho2.out.size; rw [Hlz.out] at this; exact this) (H8.out.sl (k := 1) rfl).ints (H8.out.sl (k := 0) rfl).at)
  clear H8 H7 Hd H6 Ho2 Hr1 HP HA1 HB5
  rw [← hv8]
  clear hv8
  obtain ⟨A3, E3, w9, hr1, h6⟩ := copy_rows (HVa.out.later HB8.out) Hvl.out Hv1.out (show xs.length ≤ 1000000 by omega)
  have Hr1 := Lib.hid hr1
  have H9 := Lib.hid h6
  clear hr1 h6
  go_wp2_with (with_reducible refine wpList_append_run rfl (.tmp 86) (.tmp 87) #[22, 22] rfl (.slice (some ⟨v8.heap.size, 0, none⟩) 0 0) (.slice (some ⟨b, o, none⟩) xs.length c) _ _ rfl rfl Hr1.out ?_)
  obtain ⟨bt, ot, rfl, _, _, hcs, hfs⟩ := (H9.out.sl (k := 0) rfl).open (by show 0 < vs.length; rw [Hvl.out]; omega)
  clear hcs hfs
  have Hd := Lib.hid H9.out.drew
  obtain ⟨b9, o9, e9, _, _, hcs, hfs⟩ := (H9.out.sl (k := 0) rfl).open (Nat.lt_of_le_of_lt (Nat.zero_le _) Hiv.out)
  cases e9
  have hcT1 := hcs i _ (List.getElem?_eq_getElem Hiv.out)
  have hfT1 := hfs (ot + i)
  clear hcs hfs
  have Hg1 := Lib.hid (H9.out.slSet (k := 0) rfl i Hiv.out (.slice ak lk ck))
  have Hkv2 : Hid (k < (vs.set i (.slice ak lk ck)).length) := Lib.hid (by rw [List.length_set]; exact Hkv.out)
  obtain ⟨b9, o9, e9, _, _, hcs, hfs⟩ := (Hg1.out.sl (k := 0) rfl).open (Nat.lt_of_le_of_lt (Nat.zero_le _) Hkv2.out)
  cases e9
  have hcT2 := hcs k _ (List.getElem?_eq_getElem Hkv2.out)
  have hfT2 := hfs (ot + k)
  clear hcs hfs
  have Hg2 := Lib.hid (Hg1.out.slSet (k := 0) rfl k Hkv2.out (.slice ai li ci)).drew
  replace Hg1 := Lib.hid Hg1.out.drew
  go_region_held3 (fun w' => w'.cell? ⟨b, o + i, none⟩ = some (.slice ai li ci) ∧ w'.cell? ⟨b, o + k, none⟩ = some (.slice ak lk ck))
    (first
      | with_reducible exact HKS.out _ (below_of HB8.out Hd.out.below HB8.out.size)
      | with_reducible exact HKS.out _ (below_of HB8.out Hg1.out.below HB8.out.size)
      | with_reducible exact HKS.out _ (below_of HB8.out Hg2.out.below HB8.out.size))
    (fail)
  clear hcT1 hfT1 hcT2 hfT2
  obtain ⟨v10, hv10⟩ : ∃ x, x = ((w9.setCell ⟨bt, ot + i, none⟩ (.slice ak lk ck)).setCell ⟨bt, ot + k, none⟩ (.slice ai li ci)).drew := ⟨_, rfl⟩
  rw [← hv10] at Hg2
  have HB10 := Lib.hid (below_of HB8.out Hg2.out.below HB8.out.size)
  replace Hs1 := Lib.hid (Hs1.out.later Hg2.out.below)
  have Hs2 : Hid (TabAt v10 (some ⟨bt, ot, none⟩) (tabN n wx)) := Lib.hid (HA2.out _ v10 HB10.out (Hg2.out.sl (k := 0) rfl).at)
  clear Hg1 Hg2 Hd H9 Hr1 HA2 HB8 Hkv2
  rw [← hv10]
  clear hv10
  go_upto_region 14 with fail
  have H := Lib.hid (HH.start v10)
  go_cut [17] (fun s17 wx2 => ∃ (A : Option Addr) (E : Nat), s17 = .slice A (xs.length + 1) E ∧ Below v10.heap.size v10 wx2 ∧ VAt wx2 A (vs ++ [.slice ai li ci]))
  case first =>
    go_region_held3 (fun w' => w'.cell? ⟨b, o + i, none⟩ = some (.slice ai li ci) ∧ w'.cell? ⟨b, o + k, none⟩ = some (.slice ak lk ck))
      (first
        | with_reducible exact HKS.out _ (below_of HB10.out H.out.below HB10.out.size)
        | with_reducible exact HKS.out _ (below_of HB10.out (Below.drew H.out.below) HB10.out.size)
        | with_reducible exact HKS.out _ (below_of HB10.out (bel_alloc H.out.below _) HB10.out.size)
        | with_reducible exact HKS.out _ (below_of HB10.out (Below.drew (bel_alloc H.out.below _)) HB10.out.size)
        | with_reducible exact HKS.out _ (below_of HB10.out (bel_alloc (bel_alloc H.out.below _) _) HB10.out.size)
        | with_reducible exact HKS.out _ (below_of HB10.out (Below.drew (bel_alloc (bel_alloc H.out.below _) _)) HB10.out.size))
      (first
        | ((first | with_reducible refine up_at H.out ?_ | with_reducible refine up_at H.out.drew ?_ | with_reducible refine up_at (H.out.made 36) ?_ | with_reducible refine up_at (H.out.made 36).drew ?_ | with_reducible refine up_at (H.out.one _ _) ?_ | with_reducible refine up_at (H.out.one _ _).drew ?_ | with_reducible refine up_at ((H.out.made 36).one _ _) ?_ | with_reducible refine up_at ((H.out.made 36).one _ _).drew ?_ | with_reducible refine up_at ((H.out.one _ _).made 36) ?_ | with_reducible refine up_at ((H.out.one _ _).made 36).drew ?_); intro H'; replace H := Lib.hid H'; clear H'; (with_reducible refine step_many (n := 0) (m := xs.length) (r := xs.length) rfl (.tmp 103) (.tmp 104) 22 rfl 36 i6 (.slice none 0 0) 24 Try.underlying22 hi6 hz6 hs6 hb6 rfl (by decide) H.out 0 rfl rfl rfl (by first | rfl | simp) Hvl.out rfl (HVa.out.later HB10.out) Hv1.out (by omega) (Nat.zero_add _) ?_); intro A5 E5 w11 H'; replace H := Lib.hid H'; clear H')
        | ((first | with_reducible refine up_at H.out ?_ | with_reducible refine up_at H.out.drew ?_ | with_reducible refine up_at (H.out.made 36) ?_ | with_reducible refine up_at (H.out.made 36).drew ?_ | with_reducible refine up_at (H.out.one _ _) ?_ | with_reducible refine up_at (H.out.one _ _).drew ?_ | with_reducible refine up_at ((H.out.made 36).one _ _) ?_ | with_reducible refine up_at ((H.out.made 36).one _ _).drew ?_ | with_reducible refine up_at ((H.out.one _ _).made 36) ?_ | with_reducible refine up_at ((H.out.one _ _).made 36).drew ?_); intro H'; replace H := Lib.hid H'; clear H'; (with_reducible refine step_one (n := xs.length) (u := .slice ai li ci) rfl (.tmp 105) (.tmp 110) 22 rfl 36 i6 (.slice none 0 0) 24 Try.underlying22 hi6 hz6 hs6 hb6 rfl (by decide) H.out 0 rfl Hvl2.out rfl (by first | rfl | simp) 0 rfl rfl (by first | rfl | simp) rfl (by omega) ?_); intro A6 E6 w12 H'; replace H := Lib.hid H'; clear H'))
    all_goals (go_wp2_with fail; go_meet; exact ⟨_, _, rfl, H.out.below, (H.out.sl (k := 0) rfl).at⟩)
  case rest =>
  obtain ⟨A5, E5, rfl, hb5, hv5⟩ := hcut
  generalize wc = v11 at *
  clear wc
  have HB11 := Lib.hid (below_of HB10.out hb5 HB10.out.size)
  replace Hs1 := Lib.hid (Hs1.out.later hb5)
  replace Hs2 := Lib.hid (Hs2.out.later hb5)
  have Hs3 := Lib.hid (HA3.out A5 v11 HB11.out hv5)
  clear hb5 hv5 HB10 HA3 H
  go_upto_region 15 with fail
  have H := Lib.hid (HH.start v11)
  have HVi : Hid (VAt v11 ai (ints ri)) := Lib.hid (HIi.out.later HB11.out)
  have Hli2 : Hid ((([] : List Value) ++ ints ri).length = li) := Lib.hid (by rw [List.nil_append]; exact Hli.out)
  have Hn9 : Hid (0 + xs.length ≤ 2000000) := Lib.hid (by omega)
  have Hl9 : Hid (0 + li ≤ 2000000) := Lib.hid (by omega)
  have Hn8 : Hid (xs.length ≤ 1000000) := Lib.hid (by omega)
  have Hl8 : Hid (li ≤ 1000000) := Lib.hid (by omega)
  go_cut [18] (fun s18 wx2 => ∃ (A : Option Addr) (E : Nat), s18 = .slice A (xs.length + 1) E ∧ Below v11.heap.size v11 wx2 ∧ TabAt wx2 A fx)
  case first =>
    as_aux_lemma =>
      go_region_held3 (fun w' => w'.cell? ⟨b, o + i, none⟩ = some (.slice ai li ci) ∧ w'.cell? ⟨b, o + k, none⟩ = some (.slice ak lk ck))
        (first
        | with_reducible exact HKS.out _ (below_of HB11.out H.out.below HB11.out.size)
        | with_reducible exact HKS.out _ (below_of HB11.out (Below.drew H.out.below) HB11.out.size)
        | with_reducible exact HKS.out _ (below_of HB11.out (bel_alloc H.out.below _) HB11.out.size)
        | with_reducible exact HKS.out _ (below_of HB11.out (Below.drew (bel_alloc H.out.below _)) HB11.out.size)
        | with_reducible exact HKS.out _ (below_of HB11.out (bel_alloc (bel_alloc H.out.below _) _) HB11.out.size)
        | with_reducible exact HKS.out _ (below_of HB11.out (Below.drew (bel_alloc (bel_alloc H.out.below _) _)) HB11.out.size)
        | with_reducible exact HKS.out _ (below_of HB11.out (bel_alloc (bel_alloc (bel_alloc H.out.below _) _) _) HB11.out.size)
        | with_reducible exact HKS.out _ (below_of HB11.out (Below.drew (bel_alloc (bel_alloc (bel_alloc H.out.below _) _) _)) HB11.out.size))
        (first
          | ((first | with_reducible refine up_at H.out ?_ | with_reducible refine up_at H.out.drew ?_ | with_reducible refine up_at (H.out.made 36) ?_ | with_reducible refine up_at (H.out.made 36).drew ?_ | with_reducible refine up_at (H.out.made 3) ?_ | with_reducible refine up_at (H.out.made 3).drew ?_ | with_reducible refine up_at (H.out.one _ _) ?_ | with_reducible refine up_at (H.out.one _ _).drew ?_ | with_reducible refine up_at ((H.out.made 36).made 3) ?_ | with_reducible refine up_at ((H.out.made 36).made 3).drew ?_ | with_reducible refine up_at ((H.out.made 36).one _ _) ?_ | with_reducible refine up_at ((H.out.made 36).one _ _).drew ?_ | with_reducible refine up_at ((H.out.made 3).made 36) ?_ | with_reducible refine up_at ((H.out.made 3).made 36).drew ?_ | with_reducible refine up_at ((H.out.made 3).one _ _) ?_ | with_reducible refine up_at ((H.out.made 3).one _ _).drew ?_ | with_reducible refine up_at ((H.out.one _ _).made 36) ?_ | with_reducible refine up_at ((H.out.one _ _).made 36).drew ?_ | with_reducible refine up_at ((H.out.one _ _).made 3) ?_ | with_reducible refine up_at ((H.out.one _ _).made 3).drew ?_ | with_reducible refine up_at (((H.out.made 36).made 3).one _ _) ?_ | with_reducible refine up_at (((H.out.made 36).made 3).one _ _).drew ?_ | with_reducible refine up_at (((H.out.made 36).one _ _).made 3) ?_ | with_reducible refine up_at (((H.out.made 36).one _ _).made 3).drew ?_ | with_reducible refine up_at (((H.out.made 3).made 36).one _ _) ?_ | with_reducible refine up_at (((H.out.made 3).made 36).one _ _).drew ?_ | with_reducible refine up_at (((H.out.made 3).one _ _).made 36) ?_ | with_reducible refine up_at (((H.out.made 3).one _ _).made 36).drew ?_ | with_reducible refine up_at (((H.out.one _ _).made 36).made 3) ?_ | with_reducible refine up_at (((H.out.one _ _).made 36).made 3).drew ?_ | with_reducible refine up_at (((H.out.one _ _).made 3).made 36) ?_ | with_reducible refine up_at (((H.out.one _ _).made 3).made 36).drew ?_); intro H'; replace H := Lib.hid H'; clear H'; (first | with_reducible refine step_many (n := 0) (m := xs.length) (r := xs.length) rfl (.tmp 112) (.tmp 113) 22 rfl 36 i6 (.slice none 0 0) 24 Try.underlying22 hi6 hz6 hs6 hb6 rfl (by decide) H.out 0 rfl rfl rfl (by first | rfl | simp) Hvl.out rfl (HVa.out.later HB11.out) Hv1.out Hn9.out (Nat.zero_add _) ?_ | with_reducible refine step_many (n := 0) (m := xs.length) (r := xs.length) rfl (.tmp 112) (.tmp 113) 22 rfl 36 i6 (.slice none 0 0) 24 Try.underlying22 hi6 hz6 hs6 hb6 rfl (by decide) H.out 1 rfl rfl rfl (by first | rfl | simp) Hvl.out rfl (HVa.out.later HB11.out) Hv1.out Hn9.out (Nat.zero_add _) ?_); intro A6 E6 w11 H'; replace H := Lib.hid H'; clear H')
          | ((first | with_reducible refine up_at H.out ?_ | with_reducible refine up_at H.out.drew ?_ | with_reducible refine up_at (H.out.made 36) ?_ | with_reducible refine up_at (H.out.made 36).drew ?_ | with_reducible refine up_at (H.out.made 3) ?_ | with_reducible refine up_at (H.out.made 3).drew ?_ | with_reducible refine up_at (H.out.one _ _) ?_ | with_reducible refine up_at (H.out.one _ _).drew ?_ | with_reducible refine up_at ((H.out.made 36).made 3) ?_ | with_reducible refine up_at ((H.out.made 36).made 3).drew ?_ | with_reducible refine up_at ((H.out.made 36).one _ _) ?_ | with_reducible refine up_at ((H.out.made 36).one _ _).drew ?_ | with_reducible refine up_at ((H.out.made 3).made 36) ?_ | with_reducible refine up_at ((H.out.made 3).made 36).drew ?_ | with_reducible refine up_at ((H.out.made 3).one _ _) ?_ | with_reducible refine up_at ((H.out.made 3).one _ _).drew ?_ | with_reducible refine up_at ((H.out.one _ _).made 36) ?_ | with_reducible refine up_at ((H.out.one _ _).made 36).drew ?_ | with_reducible refine up_at ((H.out.one _ _).made 3) ?_ | with_reducible refine up_at ((H.out.one _ _).made 3).drew ?_ | with_reducible refine up_at (((H.out.made 36).made 3).one _ _) ?_ | with_reducible refine up_at (((H.out.made 36).made 3).one _ _).drew ?_ | with_reducible refine up_at (((H.out.made 36).one _ _).made 3) ?_ | with_reducible refine up_at (((H.out.made 36).one _ _).made 3).drew ?_ | with_reducible refine up_at (((H.out.made 3).made 36).one _ _) ?_ | with_reducible refine up_at (((H.out.made 3).made 36).one _ _).drew ?_ | with_reducible refine up_at (((H.out.made 3).one _ _).made 36) ?_ | with_reducible refine up_at (((H.out.made 3).one _ _).made 36).drew ?_ | with_reducible refine up_at (((H.out.one _ _).made 36).made 3) ?_ | with_reducible refine up_at (((H.out.one _ _).made 36).made 3).drew ?_ | with_reducible refine up_at (((H.out.one _ _).made 3).made 36) ?_ | with_reducible refine up_at (((H.out.one _ _).made 3).made 36).drew ?_); intro H'; replace H := Lib.hid H'; clear H'; (first | with_reducible refine step_many (n := 0) (m := li) (r := li) rfl (.tmp 115) (.tmp 119) 36 rfl 3 i3 (.int .i64 0) 8 Try.underlying36 hi3 hz3 hs3 hb3 rfl (by decide) H.out 0 rfl rfl rfl (by first | rfl | simp) Hli.out rfl HVi.out (ints_one _) Hl9.out (Nat.zero_add _) ?_ | with_reducible refine step_many (n := 0) (m := li) (r := li) rfl (.tmp 115) (.tmp 119) 36 rfl 3 i3 (.int .i64 0) 8 Try.underlying36 hi3 hz3 hs3 hb3 rfl (by decide) H.out 1 rfl rfl rfl (by first | rfl | simp) Hli.out rfl HVi.out (ints_one _) Hl9.out (Nat.zero_add _) ?_); intro A7 E7 w12 H'; replace H := Lib.hid H'; clear H')
          | ((first | with_reducible refine up_at H.out ?_ | with_reducible refine up_at H.out.drew ?_ | with_reducible refine up_at (H.out.made 36) ?_ | with_reducible refine up_at (H.out.made 36).drew ?_ | with_reducible refine up_at (H.out.made 3) ?_ | with_reducible refine up_at (H.out.made 3).drew ?_ | with_reducible refine up_at (H.out.one _ _) ?_ | with_reducible refine up_at (H.out.one _ _).drew ?_ | with_reducible refine up_at ((H.out.made 36).made 3) ?_ | with_reducible refine up_at ((H.out.made 36).made 3).drew ?_ | with_reducible refine up_at ((H.out.made 36).one _ _) ?_ | with_reducible refine up_at ((H.out.made 36).one _ _).drew ?_ | with_reducible refine up_at ((H.out.made 3).made 36) ?_ | with_reducible refine up_at ((H.out.made 3).made 36).drew ?_ | with_reducible refine up_at ((H.out.made 3).one _ _) ?_ | with_reducible refine up_at ((H.out.made 3).one _ _).drew ?_ | with_reducible refine up_at ((H.out.one _ _).made 36) ?_ | with_reducible refine up_at ((H.out.one _ _).made 36).drew ?_ | with_reducible refine up_at ((H.out.one _ _).made 3) ?_ | with_reducible refine up_at ((H.out.one _ _).made 3).drew ?_ | with_reducible refine up_at (((H.out.made 36).made 3).one _ _) ?_ | with_reducible refine up_at (((H.out.made 36).made 3).one _ _).drew ?_ | with_reducible refine up_at (((H.out.made 36).one _ _).made 3) ?_ | with_reducible refine up_at (((H.out.made 36).one _ _).made 3).drew ?_ | with_reducible refine up_at (((H.out.made 3).made 36).one _ _) ?_ | with_reducible refine up_at (((H.out.made 3).made 36).one _ _).drew ?_ | with_reducible refine up_at (((H.out.made 3).one _ _).made 36) ?_ | with_reducible refine up_at (((H.out.made 3).one _ _).made 36).drew ?_ | with_reducible refine up_at (((H.out.one _ _).made 36).made 3) ?_ | with_reducible refine up_at (((H.out.one _ _).made 36).made 3).drew ?_ | with_reducible refine up_at (((H.out.one _ _).made 3).made 36) ?_ | with_reducible refine up_at (((H.out.one _ _).made 3).made 36).drew ?_); intro H'; replace H := Lib.hid H'; clear H'; (first | with_reducible refine step_one (n := li) (u := .int .i64 (n : Int)) rfl (.tmp 120) (.tmp 122) 36 rfl 3 i3 (.int .i64 0) 8 Try.underlying36 hi3 hz3 hs3 hb3 rfl (by decide) H.out 0 rfl Hli2.out rfl (by first | rfl | simp) 0 rfl rfl (by first | rfl | simp) rfl Hl8.out ?_ | with_reducible refine step_one (n := li) (u := .int .i64 (n : Int)) rfl (.tmp 120) (.tmp 122) 36 rfl 3 i3 (.int .i64 0) 8 Try.underlying36 hi3 hz3 hs3 hb3 rfl (by decide) H.out 1 rfl Hli2.out rfl (by first | rfl | simp) 0 rfl rfl (by first | rfl | simp) rfl Hl8.out ?_); intro A8 E8 w13 H'; replace H := Lib.hid H'; clear H')
          | ((first | with_reducible refine up_at H.out ?_ | with_reducible refine up_at H.out.drew ?_ | with_reducible refine up_at (H.out.made 36) ?_ | with_reducible refine up_at (H.out.made 36).drew ?_ | with_reducible refine up_at (H.out.made 3) ?_ | with_reducible refine up_at (H.out.made 3).drew ?_ | with_reducible refine up_at (H.out.one _ _) ?_ | with_reducible refine up_at (H.out.one _ _).drew ?_ | with_reducible refine up_at ((H.out.made 36).made 3) ?_ | with_reducible refine up_at ((H.out.made 36).made 3).drew ?_ | with_reducible refine up_at ((H.out.made 36).one _ _) ?_ | with_reducible refine up_at ((H.out.made 36).one _ _).drew ?_ | with_reducible refine up_at ((H.out.made 3).made 36) ?_ | with_reducible refine up_at ((H.out.made 3).made 36).drew ?_ | with_reducible refine up_at ((H.out.made 3).one _ _) ?_ | with_reducible refine up_at ((H.out.made 3).one _ _).drew ?_ | with_reducible refine up_at ((H.out.one _ _).made 36) ?_ | with_reducible refine up_at ((H.out.one _ _).made 36).drew ?_ | with_reducible refine up_at ((H.out.one _ _).made 3) ?_ | with_reducible refine up_at ((H.out.one _ _).made 3).drew ?_ | with_reducible refine up_at (((H.out.made 36).made 3).one _ _) ?_ | with_reducible refine up_at (((H.out.made 36).made 3).one _ _).drew ?_ | with_reducible refine up_at (((H.out.made 36).one _ _).made 3) ?_ | with_reducible refine up_at (((H.out.made 36).one _ _).made 3).drew ?_ | with_reducible refine up_at (((H.out.made 3).made 36).one _ _) ?_ | with_reducible refine up_at (((H.out.made 3).made 36).one _ _).drew ?_ | with_reducible refine up_at (((H.out.made 3).one _ _).made 36) ?_ | with_reducible refine up_at (((H.out.made 3).one _ _).made 36).drew ?_ | with_reducible refine up_at (((H.out.one _ _).made 36).made 3) ?_ | with_reducible refine up_at (((H.out.one _ _).made 36).made 3).drew ?_ | with_reducible refine up_at (((H.out.one _ _).made 3).made 36) ?_ | with_reducible refine up_at (((H.out.one _ _).made 3).made 36).drew ?_); intro H'; replace H := Lib.hid H'; clear H'; (first | with_reducible refine step_one (n := xs.length) (u := .slice A8 (li + 1) E8) rfl (.tmp 114) (.tmp 124) 22 rfl 36 i6 (.slice none 0 0) 24 Try.underlying22 hi6 hz6 hs6 hb6 rfl (by decide) H.out 0 rfl Hvl2.out rfl (by first | rfl | simp) 1 rfl rfl (by first | rfl | simp) rfl Hn8.out ?_ | with_reducible refine step_one (n := xs.length) (u := .slice A8 (li + 1) E8) rfl (.tmp 114) (.tmp 124) 22 rfl 36 i6 (.slice none 0 0) 24 Try.underlying22 hi6 hz6 hs6 hb6 rfl (by decide) H.out 1 rfl Hvl2.out rfl (by first | rfl | simp) 1 rfl rfl (by first | rfl | simp) rfl Hn8.out ?_); intro A9 E9 w14 H'; replace H := Lib.hid H'; clear H'))
      all_goals (go_wp2_with fail; go_meet; (first
        | exact ⟨_, _, rfl, H.out.below, HA4.out A9 A8 E8 _ (below_of HB11.out H.out.below HB11.out.size) (by have h := (H.out.sl (k := 1) rfl).size; have e := Hli.out; simp only [List.nil_append, List.length_append, List.length_singleton] at h; omega) (by have h := (H.out.sl (k := 1) rfl).at; rw [List.nil_append, Hrow2.out] at h; exact h) (H.out.sl (k := 0) rfl).at⟩
        | exact ⟨_, _, rfl, H.out.below, HA4.out A9 A8 E8 _ (below_of HB11.out H.out.below HB11.out.size) (by have h := (H.out.sl (k := 0) rfl).size; have e := Hli.out; simp only [List.nil_append, List.length_append, List.length_singleton] at h; omega) (by have h := (H.out.sl (k := 0) rfl).at; rw [List.nil_append, Hrow2.out] at h; exact h) (H.out.sl (k := 1) rfl).at⟩))
  case rest =>
  obtain ⟨A9, E9, rfl, hb9, hv9⟩ := hcut
  generalize wc = v12 at *
  clear wc
  have HB12 := Lib.hid (below_of HB11.out hb9 HB11.out.size)
  replace Hs1 := Lib.hid (Hs1.out.later hb9)
  replace Hs2 := Lib.hid (Hs2.out.later hb9)
  replace Hs3 := Lib.hid (Hs3.out.later hb9)
  have Hs4 := Lib.hid hv9
  clear hb9 hv9 HB11 HA4 H HVi
  have H12 := Lib.hid (HH.start v12)
  go_wp2_with fail
  refine (matrix_any (n : Int) xs.length (some ⟨bs, os, none⟩) E1 v12).mono ?_
  rintro e w13 ⟨rfl, hb⟩
  have H13 := Lib.hid (H12.out.call hb)
  replace Hs1 := Lib.hid (Hs1.out.later hb)
  replace Hs2 := Lib.hid (Hs2.out.later hb)
  replace Hs3 := Lib.hid (Hs3.out.later hb)
  replace Hs4 := Lib.hid (Hs4.out.later hb)
  clear hb H12 
  go_wp2_with fail
  refine (HR1.out (some ⟨bs, os, none⟩) E1 w13 Hs1.out).mono ?_
  rintro e w14 ⟨rfl, hb⟩
  have H14 := Lib.hid (H13.out.call hb)
  replace Hs1 := Lib.hid (Hs1.out.later hb)
  replace Hs2 := Lib.hid (Hs2.out.later hb)
  replace Hs3 := Lib.hid (Hs3.out.later hb)
  replace Hs4 := Lib.hid (Hs4.out.later hb)
  clear hb H13 HR1
  go_wp2_with fail
  refine (matrix_any (n : Int) xs.length (some ⟨bt, ot, none⟩) E3 w14).mono ?_
  rintro e w15 ⟨rfl, hb⟩
  have H15 := Lib.hid (H14.out.call hb)
  replace Hs1 := Lib.hid (Hs1.out.later hb)
  replace Hs2 := Lib.hid (Hs2.out.later hb)
  replace Hs3 := Lib.hid (Hs3.out.later hb)
  replace Hs4 := Lib.hid (Hs4.out.later hb)
  clear hb H14 
  go_wp2_with fail
  refine (HR2.out (some ⟨bt, ot, none⟩) E3 w15 Hs2.out).mono ?_
  rintro e w16 ⟨rfl, hb⟩
  have H16 := Lib.hid (H15.out.call hb)
  replace Hs1 := Lib.hid (Hs1.out.later hb)
  replace Hs2 := Lib.hid (Hs2.out.later hb)
  replace Hs3 := Lib.hid (Hs3.out.later hb)
  replace Hs4 := Lib.hid (Hs4.out.later hb)
  clear hb H15 HR2
  go_wp2_with fail
  refine (matrix_any (n : Int) (xs.length + 1) A5 E5 w16).mono ?_
  rintro e w17 ⟨rfl, hb⟩
  have H17 := Lib.hid (H16.out.call hb)
  replace Hs1 := Lib.hid (Hs1.out.later hb)
  replace Hs2 := Lib.hid (Hs2.out.later hb)
  replace Hs3 := Lib.hid (Hs3.out.later hb)
  replace Hs4 := Lib.hid (Hs4.out.later hb)
  clear hb H16 
  go_wp2_with fail
  refine (HR3.out A5 E5 w17 Hs3.out).mono ?_
  rintro e w18 ⟨rfl, hb⟩
  have H18 := Lib.hid (H17.out.call hb)
  replace Hs1 := Lib.hid (Hs1.out.later hb)
  replace Hs2 := Lib.hid (Hs2.out.later hb)
  replace Hs3 := Lib.hid (Hs3.out.later hb)
  replace Hs4 := Lib.hid (Hs4.out.later hb)
  clear hb H17 HR3
  go_wp2_with fail
  refine (matrix_any ((n : Int) + 1) (xs.length + 1) A9 E9 w18).mono ?_
  rintro e w19 ⟨rfl, hb⟩
  have H19 := Lib.hid (H18.out.call hb)
  replace Hs1 := Lib.hid (Hs1.out.later hb)
  replace Hs2 := Lib.hid (Hs2.out.later hb)
  replace Hs3 := Lib.hid (Hs3.out.later hb)
  replace Hs4 := Lib.hid (Hs4.out.later hb)
  clear hb H18 
  go_wp2_with fail
  refine (HR4.out A9 E9 w19 Hs4.out).mono ?_
  rintro e w20 ⟨rfl, hb⟩
  have H20 := Lib.hid (H19.out.call hb)
  replace Hs1 := Lib.hid (Hs1.out.later hb)
  replace Hs2 := Lib.hid (Hs2.out.later hb)
  replace Hs3 := Lib.hid (Hs3.out.later hb)
  replace Hs4 := Lib.hid (Hs4.out.later hb)
  clear hb H19 HR4
  go_wp2_with fail
  go_ret
  exact ⟨rfl, below_of HB12.out H20.out.below HB12.out.size⟩
end Go.Proofs.Ytlgiponfcmeiiaa
