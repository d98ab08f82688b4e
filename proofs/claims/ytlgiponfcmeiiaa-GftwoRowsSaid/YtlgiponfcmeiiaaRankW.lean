/- The walk of gftwo.Rank. -/
import Derived.Test.YtlgiponfcmeiiaaRkP
import Derived.Test.YtlgiponfcmeiiaaValW
import Derived.Test.YtlgiponfcmeiiaaRenW
namespace Go.Proofs.Ytlgiponfcmeiiaa
open Go Go.RowKit
set_option maxRecDepth 100000 in
set_option maxHeartbeats 4000000 in
theorem rank_no (C : Int) (T : List (List Int)) (a : Option Addr) (c : Nat) (w : World) (hTl : T.length ≤ 1000000) (hRl : ∀ l ∈ T, l.length ≤ 1000000) (hC : -9223372036854775808 ≤ C ∧ C ≤ 9223372036854775807) (hT : TabAt w a T) (hv : vldM C T = false) :
    Calls Try.prog 14 #[.agg #[.int .i64 C, .slice a T.length c]] w fun e w' => e = .returned (.tuple #[.int .i64 0, .int .i64 1]) ∧ Below w.heap.size w w' := by
  obtain ⟨W, hW⟩ : ∃ W, W = w.alloc (.cells #[.int .i64 C, .slice a T.length c] 26) := ⟨_, rfl⟩
  have h0 : HH w W [(w.heap.size, rowO 26 [.int .i64 C, .slice a T.length c])] [] := by rw [hW]; exact (HH.start w).alloc #[.int .i64 C, .slice a T.length c] 26 rfl rfl
  have H0 := Lib.hid h0
  have HV := Lib.hid (valid_any C T a c W hTl hRl hC (hT.later h0.below))
  rw [hv] at HV
  clear h0 hT hv hRl hTl
  go_enter Try.func14, Try.ntmps14
  have hc0_0 := H0.out.cell (k := 0) (i := 0) rfl rfl
  have hc0_1 := H0.out.cell (k := 0) (i := 1) rfl rfl
  rw [hW] at hc0_0 hc0_1
  go_wp2_with fail
  rw [← hW]
  refine HV.out.mono ?_
  rintro e w1 ⟨rfl, hb⟩
  have H1 := Lib.hid (H0.out.call hb)
  clear hb hc0_0 hc0_1 hW
  go_wp2_with fail
  refine bodyPost_ret (v := .tuple #[.int .i64 0, .int .i64 1]) (by simp [results, Try.results14, go_sem]) rfl ?_
  exact ⟨rfl, H1.out.below⟩
def piv0 : Nat → SlE := fun _ => (none, 0, 0)
/-- What the pivots' slices hold. -/
def PvAt (C : Nat) (w : World) (ks : List Nat) (pf : Nat → SlE) (pv : Nat → Nat) : Prop := ∀ k ∈ ks, IntsAt w (slA (pf k)) (rowOf C (pv k)) ∧ (pf k).2.1 = (rowOf C (pv k)).length ∧ (rowOf C (pv k)).length ≤ (pf k).2.2
theorem PvAt.later {C : Nat} {w w' : World} {ks : List Nat} {pf : Nat → SlE} {pv : Nat → Nat} (h : PvAt C w ks pf pv) (hb : Below w.heap.size w w') : PvAt C w' ks pf pv := fun k hk => ⟨(h k hk).1.later hb, (h k hk).2⟩
theorem PvAt.put {C : Nat} {w w' : World} {ks : List Nat} {pf : Nat → SlE} {pv : Nat → Nat} (h : PvAt C w ks pf pv) {b : Nat} (ht : w.mapTurned w' b) {k x : Nat} {v : SlE} (hi : IntsAt w (slA v) (rowOf C x)) (hn : v.2.1 = (rowOf C x).length) (hc : (rowOf C x).length ≤ v.2.2) : PvAt C w' (k :: ks) (updN pf k v) (updN pv k x) := fun j hj => by
  by_cases e : j = k
  · subst e
    unfold updN
    rw [if_pos rfl, if_pos rfl]
    exact ⟨hi.turned ht, hn, hc⟩
  · unfold updN
    rw [if_neg e, if_neg e]
    obtain ⟨h1, h2⟩ := h j ((List.mem_cons.1 hj).resolve_left e)
    exact ⟨h1.turned ht, h2⟩
set_option maxRecDepth 100000 in
set_option maxHeartbeats 4000000 in
theorem rank_yes (C : Nat) (xs : List Nat) (hx : ∀ x ∈ xs, x < 2 ^ C) (hC : C ≤ 65536) (hR : xs.length ≤ 65536) (a : Option Addr) (c : Nat) (w : World) (hT : TabAt w a (tabN C xs)) :
    Calls Try.prog 14 #[.agg #[.int .i64 (C : Int), .slice a xs.length c]] w fun e w' => e = .returned (.tuple #[.int .i64 (rk xs : Nat), .int .i64 0]) ∧ Below w.heap.size w w' := by
  obtain ⟨W, hW⟩ : ∃ W, W = w.alloc (.cells #[.int .i64 (C : Int), .slice a xs.length c] 26) := ⟨_, rfl⟩
  have h0 : HH w W [(w.heap.size, rowO 26 [.int .i64 (C : Int), .slice a xs.length c])] [] := by rw [hW]; exact (HH.start w).alloc #[.int .i64 (C : Int), .slice a xs.length c] 26 rfl rfl
  have H0 := Lib.hid h0
  have HT := Lib.hid (hT.later h0.below)
  have hv : vldM C (tabN C xs) = true := vldM_iff.2 ⟨⟨by omega, by omega, by rw [tabN_len]; exact hR⟩, fun l hl => by
    obtain ⟨x, _, rfl⟩ := List.mem_map.1 hl
    exact rowOf_asc C x⟩
  have HV := valid_any C (tabN C xs) a c W (by rw [tabN_len]; omega) (fun l hl => by
    obtain ⟨x, _, rfl⟩ := List.mem_map.1 hl
    exact Nat.le_trans (rowOf_len C x) (by omega)) (by omega) HT.out
  rw [hv, tabN_len] at HV
  have HV := Lib.hid HV
  have HX := Lib.hid hx
  clear h0 hT hv hx
  go_enter Try.func14, Try.ntmps14
  have hc0_0 := H0.out.cell (k := 0) (i := 0) rfl rfl
  have hc0_1 := H0.out.cell (k := 0) (i := 1) rfl rfl
  rw [hW] at hc0_0 hc0_1
  go_wp2_with fail
  rw [← hW]
  refine HV.out.mono ?_
  rintro e w1 ⟨rfl, hb⟩
  have H1 := Lib.hid (H0.out.call hb)
  replace HT := Lib.hid (HT.out.later hb)
  clear hb hc0_0 hc0_1 hW HV
  have H2 := Lib.hid (H1.out.allocO (.map #[] 0) rfl (kmapO_made (R := slR) (dat := slD) w1 piv0))
  have HT2 := Lib.hid (HT.out.later ((Below.refl _ _).alloc (Nat.le_refl _) (.map #[] 0)))
  have hc0_0 := H2.out.cell (k := 0) (i := 0) rfl rfl
  have hc0_1 := H2.out.cell (k := 0) (i := 1) rfl rfl
  obtain ⟨w2, hw2⟩ : ∃ x, x = w1.alloc (.map #[] 0) := ⟨_, rfl⟩
  rw [← hw2] at H2 HT2
  have HC := Lib.hid (renamed_any C xs HX.out hC (by omega) a c w2 HT2.out)
  clear HT HT2
  go_wp2_with (refine wpList_makeMap_k rfl 48 rfl ?_)
  rw [← hw2]
  refine HC.out.mono ?_
  rintro e w3 ⟨P, A, E, hP1, hP2, rfl, hT3, hb3⟩
  have H3 := Lib.hid (H2.out.call hb3)
  have hYl : (xs.map (lin (fun i => 2 ^ P i) C)).length = xs.length := List.length_map _
  have HY : Hid (∀ y ∈ xs.map (lin (fun i => 2 ^ P i) C), y < 2 ^ C) := Lib.hid fun y hy => by
    obtain ⟨x, _, rfl⟩ := List.mem_map.1 hy
    exact lin_lt (fun k hk => Nat.pow_lt_pow_right (by omega) (hP1 k hk)) x
  have HRk : Hid (rk (xs.map (lin (fun i => 2 ^ P i) C)) = rk xs) := Lib.hid (rk_renamed hP2 HX.out)
  obtain ⟨ys, hys⟩ : ∃ ys, ys = xs.map (lin (fun i => 2 ^ P i) C) := ⟨_, rfl⟩
  rw [← hys] at hT3 hYl HY HRk
  have HT3 : Hid (∀ W', Below w3.heap.size w3 W' → TabAt W' A (tabN C ys)) := Lib.hid fun W' h => hT3.later h
  have Hyl := Lib.hid hYl
  have HB3 := Lib.hid (Below.refl w3.heap.size w3)
  generalize w1.heap.size = M at *
  clear hys hT3 hb3 hP1 hP2 HC H2 hc0_0 hc0_1 hw2 hYl HX
  go_wp2_with fail
  go_loopg [16] xs.length (fun g v wr => ∃ (i : Nat) (ks : List Nat) (pf : Nat → SlE) (pv : Nat → Nat), i ≤ xs.length ∧ g = xs.length - i ∧ v = .int .i64 i ∧ ks.length ≤ i ∧ HH w wr [(w.heap.size, rowO 26 [.int .i64 (C : Int), .slice a xs.length c]), (M, kmapO slR slD ks.length ks pf)] [] ∧ TabAt wr A (tabN C ys) ∧ PvAt C wr ks pf pv ∧ Piv C ys i ks pv)
  case atStart => exact ⟨0, [], piv0, fun _ => 0, Nat.zero_le _, rfl, rfl, Nat.le_refl _, H3.out, HT3.out _ HB3.out, fun k h => (by cases h), Piv.zero C ys _⟩
  case round =>
    obtain ⟨i, ks, pf, pv, hi, rfl, rfl, hki, hh, ht, hpv, hp⟩ := hrel
    have Hh := Lib.hid hh
    have Ht := Lib.hid ht
    have Hpv := Lib.hid hpv
    have Hp := Lib.hid hp
    clear hh ht hpv hp H3 HT3 HB3
    by_cases hil : i < xs.length
    · obtain ⟨b1, o1, a', c', rfl, hcr, hrow⟩ := Ht.out.rowAt (tabN_get (by rw [Hyl.out]; exact hil))
      have hc1 := (hrow wr (Below.refl _ _)).1
      have HI := Lib.hid (And.intro (hrow wr (Below.refl _ _)).2 hcr)
      obtain ⟨y, hy⟩ : ∃ y, y = ys.getD i 0 := ⟨_, rfl⟩
      rw [← hy] at HI hc1
      have Hy : Hid (y = ys.getD i 0) := Lib.hid hy
      have Hy2 : Hid (y < 2 ^ C ∧ spanB ys y = true) := Lib.hid (by rw [hy]; exact ⟨getD_lt HY.out i, span_mem (by rw [List.getD_eq_getElem?_getD, List.getElem?_eq_getElem (by rw [Hyl.out]; exact hil)]; exact List.getElem_mem _)⟩)
      clear hrow hcr hy
      go_wp2_with fail
      go_loopg [6] (C - ldN C y) (fun g v wr => ∃ (x : Nat) (B : Option Addr) (F : Nat), g = C - ldN C x ∧ v = .slice B (rowOf C x).length F ∧ x < 2 ^ C ∧ spanB ys x = true ∧ spanB (ks.map pv) (x ^^^ y) = true ∧ IntsAt wr B (rowOf C x) ∧ (rowOf C x).length ≤ F ∧ HH w wr [(w.heap.size, rowO 26 [.int .i64 (C : Int), .slice a xs.length c]), (M, kmapO slR slD ks.length ks pf)] [] ∧ TabAt wr (some ⟨b1, o1, none⟩) (tabN C ys) ∧ PvAt C wr ks pf pv)
      case atStart => exact ⟨y, a', c', rfl, rfl, Hy2.out.1, Hy2.out.2, by rw [Nat.xor_self]; exact span_zero _, HI.out.1, HI.out.2, Hh.out, Ht.out, Hpv.out⟩
      case round =>
        obtain ⟨x, B, F, rfl, rfl, hx1, hx2, hx3, hIx, hF, hh, ht, hpv⟩ := hrel
        clear Hh Ht Hpv HI hc1
        have Hh := Lib.hid hh
        have Ht := Lib.hid ht
        have Hpv := Lib.hid hpv
        have Hx := Lib.hid (And.intro hx1 (And.intro hx2 hx3))
        have HIx := Lib.hid (And.intro hIx hF)
        have hlC : (rowOf C x).length ≤ 65536 := Nat.le_trans (rowOf_len _ _) hC
        clear hh ht hpv hx1 hx2 hx3 hIx hF
        by_cases hl : 0 < (rowOf C x).length
        · obtain ⟨hn0, hlt, hld⟩ := rowOf_head Hx.out.1 hl
          obtain ⟨b2, o2, rfl, _, hcR⟩ := HIx.out.1.open hl
          have hcx := hcR 0 hl
          rw [hn0, Nat.add_zero] at hcx
          have Hld := Lib.hid hld
          obtain ⟨kc, hkc⟩ : ∃ kc, kc = ldN C x := ⟨_, rfl⟩
          rw [← hkc] at hcx hlt Hld
          have Hkc := Lib.hid hkc
          clear hcR hn0 hld hkc
          obtain ⟨len, hlen⟩ : ∃ n, n = (rowOf C x).length := ⟨_, rfl⟩
          rw [← hlen] at hl hlC
          have Hlen := Lib.hid hlen
          rw [← hlen]
          clear hlen
          by_cases hm : kc ∈ ks
          · obtain ⟨hp1, hp2, hp3⟩ := Hpv.out kc hm
            have Hkm := Lib.hid (Hh.out.kmap (k := 1) rfl)
            have hsv : slE (if kc ∈ ks then pf kc else (none, 0, 0)) = .slice (slA (pf kc)) (rowOf C (pv kc)).length (pf kc).2.2 := by rw [if_pos hm]; unfold slE; rw [hp2]
            have Hsv := Lib.hid hsv
            have Hm := Lib.hid hm
            have hpl := Hp.out.lt kc hm
            have Hpl := Lib.hid hpl
            have HC := Lib.hid (add_any (rowOf C x) (rowOf C (pv kc)) (some ⟨b2, o2, none⟩) (slA (pf kc)) F (pf kc).2.2 wr HIx.out.2 hp3 (Nat.le_trans (rowOf_len _ _) (by omega)) (Nat.le_trans (rowOf_len _ _) (by omega)) HIx.out.1 hp1)
            rw [addL_row Hx.out.1 hpl.2.1, ← Hlen.out] at HC
            clear hp1 hp2 hp3 hsv hm hpl
            go_wp2_with (with_reducible refine wpList_look_k elSl rfl 48 (.tmp 24) (.tmp 27) rfl Try.underlying48 (none, 0, 0) slZero M ks.length kc ks pf rfl rfl (by omega) Hkm.out _ Hsv.out true (decide_eq_true Hm.out) ?_)
            refine HC.out.mono ?_
            rintro e w5 ⟨A5, E5, rfl, ho5, hb5⟩
            have H5 := Lib.hid (Hh.out.call hb5)
            have hsz := ho5.size
            rw [ints_length] at hsz
            have HA5 := Lib.hid (And.intro ho5.ints hsz)
            have Hb5 := Lib.hid hb5
            clear ho5 hb5 hsz HC Hsv Hkm
            go_wp2_with fail
            go_roundg (C - ldN C (x ^^^ pv kc))
            case measure =>
              have h1 := lead_sum Hx.out.1 Hpl.out.2.1 Hld.out Hpl.out.2.2.1 hlt
              have h2 := ldN_le C (x ^^^ pv kc)
              have h3 := Hkc.out
              omega
            case rel =>
              refine ⟨x ^^^ pv kc, A5, E5, rfl, rfl, Nat.xor_lt_two_pow Hx.out.1 Hpl.out.2.1, span_xor Hx.out.2.1 Hpl.out.2.2.2, ?_, HA5.out.1, HA5.out.2, H5.out, Ht.out.later Hb5.out, Hpv.out.later Hb5.out⟩
              have h1 : spanB (ks.map pv) (pv kc) = true := span_mem (List.mem_map.2 ⟨kc, Hm.out, rfl⟩)
              have h2 := span_xor Hx.out.2.2 h1
              rwa [show x ^^^ y ^^^ pv kc = x ^^^ pv kc ^^^ y by rw [Nat.xor_assoc, Nat.xor_assoc, Nat.xor_comm y]] at h2
          · have Hkm := Lib.hid (Hh.out.kmap (k := 1) rfl)
            have Hm := Lib.hid hm
            have Hsv : Hid (slE (if kc ∈ ks then pf kc else (none, 0, 0)) = .slice none 0 0) := Lib.hid (by rw [if_neg hm]; rfl)
            have hkl : ks.length ≤ 65536 := by omega
            have Hsl : Hid (slE (some (b2, o2), len, F) = .slice (some ⟨b2, o2, none⟩) len F) := Lib.hid rfl
            clear hm
            go_wp2_with (first
              | (with_reducible refine wpList_look_k elSl rfl 48 (.tmp 24) (.tmp 27) rfl Try.underlying48 (none, 0, 0) slZero M ks.length kc ks pf rfl rfl (by omega) Hkm.out _ Hsv.out false (decide_eq_false Hm.out) ?_)
              | (with_reducible refine wpList_store_k elSl rfl 48 (.tmp 33) (.tmp 36) (.tmp 37) rfl Try.underlying48 M ks.length kc ks pf (some (b2, o2), len, F) (.slice (some ⟨b2, o2, none⟩) len F) Hsl.out rfl rfl rfl (by omega) Hkm.out (by omega) ?_; intro w6 hk6 ht6; have Hk6 := Lib.hid hk6; have Ht6 := Lib.hid ht6; clear hk6 ht6))
            have Hk7 : Hid (KMap slR slD w6 M (kc :: ks).length (kc :: ks) (updN pf kc (some (b2, o2), len, F))) := Lib.hid (by
              have h := Hk6.out
              rw [if_neg Hm.out] at h
              exact h)
            have H7 := Lib.hid (Hh.out.mapTurn (k := 1) rfl Hk7.out Ht6.out)
            have HP7 := Lib.hid (Hpv.out.put Ht6.out (k := kc) (x := x) (v := (some (b2, o2), len, F)) HIx.out.1 Hlen.out (by have := HIx.out.2; exact this))
            have HT7 : Hid (TabAt w6 (some ⟨b1, o1, none⟩) (tabN C ys)) := Lib.hid (Ht.out.turnedM Ht6.out)
            have HV7 : Hid (Piv C ys (i + 1) (kc :: ks) (updN pv kc x)) := Lib.hid (Hp.out.put (by rw [Hyl.out]; exact hil) Hm.out hlt Hx.out.1 Hld.out Hx.out.2.1 (by rw [← Hy.out]; exact Hx.out.2.2))
            clear Hk6 Ht6 Hk7 Hkm Hsv
            go_wp2_with fail
            go_roundg (xs.length - (i + 1))
            case measure => omega
            case rel => exact ⟨i + 1, kc :: ks, updN pf kc (some (b2, o2), len, F), updN pv kc x, by omega, rfl, by go_num, by rw [List.length_cons]; omega, H7.out, HT7.out, HP7.out, HV7.out⟩
        · have h0 : (rowOf C x).length = 0 := by omega
          have HVn : Hid (Piv C ys (i + 1) ks pv) := Lib.hid (by
            refine Hp.out.next (by rw [Hyl.out]; exact hil) ?_
            have hx0 : x = 0 := (rowOf_nil Hx.out.1).1 (List.eq_nil_of_length_eq_zero h0)
            have := Hx.out.2.2
            rw [hx0, Nat.zero_xor] at this
            rw [← Hy.out]; exact this)
          rw [h0]
          clear hl
          go_wp2_with fail
          go_roundg (xs.length - (i + 1))
          case measure => omega
          case rel => exact ⟨i + 1, ks, pf, pv, by omega, rfl, by go_num, by omega, Hh.out, Ht.out, Hpv.out, HVn.out⟩
    · obtain rfl : i = xs.length := by omega
      have Hkm := Lib.hid (Hh.out.kmap (k := 1) rfl)
      have HL : Hid (rk xs = ks.length) := Lib.hid (by
        rw [← HRk.out]
        refine Piv.rank (C := C) (pv := pv) ?_
        rw [Hyl.out]; exact Hp.out)
      go_wp2_with (with_reducible refine wpList_len_k rfl 48 (.tmp 42) rfl Try.underlying48 M ks.length ks pf rfl Hkm.out ?_)
      refine bodyPost_ret (v := .tuple #[.int .i64 (ks.length : Nat), .int .i64 0]) (by simp [results, Try.results14, go_sem]) rfl ?_
      exact ⟨by rw [HL.out], Hh.out.below⟩
end Go.Proofs.Ytlgiponfcmeiiaa
