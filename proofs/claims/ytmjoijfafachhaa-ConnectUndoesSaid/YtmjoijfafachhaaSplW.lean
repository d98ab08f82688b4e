/- connect.Split: the parts of a diagram. -/
import Derived.Test.YtmjoijfafachhaaDgL
namespace Go.Proofs.Ytmjoijfafachhaa
open Go Go.RowKit
/-- The parts as diagrams, and the loops. -/
noncomputable def splitL (S M : List Int) (L : Int) : List Dgm := (grpOf M S.length).map (fun G => (partS S G, partM M G, 0)) ++ List.replicate L.toNat ([], [], 1)
theorem grp_whole {M : List Int} {n : Nat} (hm : MateOk M n) {G : List Nat} (h : G ∈ grpOf M n) : Whole M n G ∧ 0 < G.length := by
  obtain ⟨c, hc, rfl⟩ := List.mem_map.1 h
  refine ⟨whole_cls hm c, ?_⟩
  have hcn := (mem_leadsN.1 hc).1
  exact List.length_pos_of_mem (mem_clsN.2 ⟨hcn, Conn.refl M c⟩)
theorem grp_len (M : List Int) (n : Nat) : (grpOf M n).length ≤ n := by
  unfold grpOf leadsN
  rw [List.length_map]
  have := List.length_filter_le (fun c => okC (∀ d, d < c → ¬ Conn M d c)) (List.range n)
  rwa [List.length_range] at this
set_option maxRecDepth 100000 in
set_option maxHeartbeats 4000000 in
theorem split_any (S M : List Int) (L : Int) (aS aM : Option Addr) (cS cM : Nat) (w : World) (hv : vldB S M L = true) (hS : IntsAt w aS S) (hM : IntsAt w aM M) (B0 : Nat) :
    Calls Try.prog 14 #[.agg #[.slice aS S.length cS, .slice aM M.length cM, .int .i64 L]] w fun e w' => ∃ A C, e = .returned (.slice A (splitL S M L).length C) ∧ (B0 ≤ w.heap.size → DLO w' w.heap.size B0 A C (splitL S M L)) ∧ Below w.heap.size w w' := by
  have hs := vldB_shape hv
  have hm := hs.mates
  have hfw := hs.few
  have hlo := hs.lo
  have hhi := hs.hi
  have HV : Hid (∀ W', Below w.heap.size w W' → Calls Try.prog 26 #[.agg #[.slice aS S.length cS, .slice aM M.length cM, .int .i64 L]] W' fun e w' => e = .returned (.bool true) ∧ Below W'.heap.size W' w') := Lib.hid fun W' h => by
    have g := valid_any S M L aS aM cS cM W' (by omega) (by rw [hs.len]; omega) (hS.later h) (hM.later h)
    rw [hv] at g; exact g
  have HGr : Hid (∀ W', Below w.heap.size w W' → Calls Try.prog 28 #[.agg #[.slice aS S.length cS, .slice aM M.length cM, .int .i64 L]] W' fun e w' => ∃ a c, e = .returned (.slice a (grpOf M S.length).length c) ∧ OwnRows w' W'.heap.size a c ((grpOf M S.length).map nats) ∧ Below W'.heap.size W' w') := Lib.hid fun W' h => graph_any S M L aS aM cS cM W' hv (hS.later h) (hM.later h)
  have HPt : Hid (∀ i, i < (grpOf M S.length).length → ∀ aG cG W', Below w.heap.size w W' → IntsAt W' aG (nats ((grpOf M S.length).getD i [])) → Calls Try.prog 48 #[.agg #[.slice aS S.length cS, .slice aM M.length cM, .int .i64 L], .slice aG ((grpOf M S.length).getD i []).length cG] W' fun e w' => ∃ a b c d, e = .returned (.agg #[.slice a ((grpOf M S.length).getD i []).length c, .slice b (4 * ((grpOf M S.length).getD i []).length) d, .int .i64 0]) ∧ Own w' W'.heap.size 3 a c (ints (partS S ((grpOf M S.length).getD i []))) ∧ Own w' W'.heap.size 3 b d (ints (partM M ((grpOf M S.length).getD i []))) ∧ Below W'.heap.size W' w') := Lib.hid fun i hi aG cG W' h hg => by
    have hmem : (grpOf M S.length).getD i [] ∈ grpOf M S.length := by
      rw [List.getD_eq_getElem?_getD, List.getElem?_eq_getElem hi]; exact List.getElem_mem hi
    exact part_any S M L aS aM aG cS cM cG _ W' hv (grp_whole hm hmem).1 (hS.later h) (hM.later h) hg
  have hgl := grp_len M S.length
  have HGn : Hid (∀ i, i < (grpOf M S.length).length → ((grpOf M S.length).getD i []).length ≤ 1000000) := Lib.hid fun i hi => by
    have hmem : (grpOf M S.length).getD i [] ∈ grpOf M S.length := by
      rw [List.getD_eq_getElem?_getD, List.getElem?_eq_getElem hi]; exact List.getElem_mem hi
    have hw := (grp_whole hm hmem).1
    have := hw.nd.length_le_of_subset (l₂ := List.range S.length) fun c hc => List.mem_range.2 (hw.lt c hc)
    rw [List.length_range] at this; omega
  obtain ⟨lp, rfl⟩ : ∃ lp : Nat, L = (lp : Int) := ⟨L.toNat, by omega⟩
  have HSp : Hid (splitL S M (lp : Int) = (grpOf M S.length).map (fun G => (partS S G, partM M G, 0)) ++ List.replicate lp ([], [], 1)) := Lib.hid (by unfold splitL; rw [Int.toNat_natCast])
  have hlp64 : lp ≤ 64 := by omega
  rw [HSp.out, List.length_append, List.length_map, List.length_replicate]
  obtain ⟨i0, hi0, hz0, hz1, hz2⟩ := info_parts Try.info24
  have Hzc : Hid ((Value.agg #[.slice none 0 0, .slice none 0 0, .int .i64 0]).cells.size = 3) := Lib.hid rfl
  have H0 := Lib.hid ((HH.start w).alloc #[.slice aS S.length cS, .slice aM M.length cM, .int .i64 (lp : Int)] 24 rfl rfl)
  clear hs hm hv hS hM HSp
  generalize grpOf M S.length = gs at *
  generalize hT : gs.map (fun G => ((partS S G, partM M G, (0 : Int)) : Dgm)) = T at *
  have HT := Lib.hid hT
  clear hT
  generalize S.length = n at *
  generalize M.length = N at *
  go_enter Try.func14, Try.ntmps14
  go_wp2_with fail
  refine (HV.out _ H0.out.below).mono ?_
  rintro e w1 ⟨rfl, hb⟩
  have H1 := Lib.hid (H0.out.call hb)
  clear hb H0 HV
  have c1 := H1.out.cell (k := 0) (i := 0) rfl rfl
  have c2 := H1.out.cell (k := 0) (i := 1) rfl rfl
  have c3 := H1.out.cell (k := 0) (i := 2) rfl rfl
  go_wp2_with fail
  clear c1 c2 c3
  refine (HGr.out _ H1.out.below).mono ?_
  rintro e w2 ⟨aP, cP, rfl, ho, hb⟩
  have H2 := Lib.hid ((H1.out.call hb).addNil 24)
  have HO := Lib.hid ho
  have hq : w.heap.size ≤ w1.heap.size := H1.out.below.size
  clear hb ho H1 HGr
  generalize w1.heap.size = q at *
  go_wp2_with fail
  go_loopg [12, 3] gs.length (fun g v s3 wr => ∃ (i : Nat) (A : Option Addr) (C : Nat) (vs : List Value), i ≤ gs.length ∧ g = gs.length - i ∧ v = .int .i64 i ∧ s3 = .slice A i C ∧ i ≤ C ∧ OwnRows wr q aP cP (gs.map nats) ∧ (B0 ≤ w.heap.size → CellsOf wr B0 vs (T.take i)) ∧ vs.length = i * 3 ∧ HH w wr [(w.heap.size, rowO 24 [.slice aS n cS, .slice aM N cM, .int .i64 (lp : Int)])] [⟨A, C * 3, 24, vs⟩])
  case atStart => exact ⟨0, none, 0, [], Nat.zero_le _, rfl, rfl, rfl, Nat.le_refl _, HO.out, fun _ => CellsOf.nil _ _, rfl, H2.out⟩
  case round =>
    obtain ⟨i, A, C, vs, hi, rfl, rfl, rfl, hiC, ho, hc, hvl, hh⟩ := hrel
    replace HO := Lib.hid ho
    have HCl := Lib.hid hc
    have Hh := Lib.hid hh
    have Hvl := Lib.hid hvl
    clear ho hc hh H2 hvl
    by_cases hil : i < gs.length
    · obtain ⟨b1, o1, rfl, _, _, hrow⟩ := HO.out.open (by rw [List.length_map]; omega)
      obtain ⟨a', c', hci, hro⟩ := hrow i (nats (gs.getD i [])) (by rw [List.getElem?_map, getD_some (d := []) hil]; rfl)
      rw [nats_length] at hci
      have c1 := Hh.out.cell (k := 0) (i := 0) rfl rfl
      have c2 := Hh.out.cell (k := 0) (i := 1) rfl rfl
      have c3 := Hh.out.cell (k := 0) (i := 2) rfl rfl
      have HP := Lib.hid (HPt.out i hil a' c' wr Hh.out.below hro.ints)
      have hgn : (gs.getD i []).length ≤ 1000000 := HGn.out i hil
      have hTi : T.take (i + 1) = T.take i ++ [(partS S (gs.getD i []), partM M (gs.getD i []), 0)] := by
        rw [List.take_add_one, ← HT.out, List.getElem?_map, getD_some (d := []) hil]; rfl
      have HTi := Lib.hid hTi
      clear hTi
      generalize gs.getD i [] = Gi at *
      clear hrow hro
      go_wp2_with fail
      refine HP.out.mono ?_
      rintro e w5 ⟨a5, b5, c5, d5, rfl, ho1, ho2, hb⟩
      have H3 := Lib.hid (Hh.out.call hb)
      have HO3 := Lib.hid (HO.out.later hb (Nat.le_refl _))
      have t1 : TI w5 B0 a5 (partS S Gi) := TI.own ho1
      have t2 : TI w5 B0 b5 (partM M Gi) := TI.own ho2
      have hC3 : B0 ≤ w.heap.size → CellsOf w5 B0 (vs ++ [.slice a5 Gi.length c5, .slice b5 (4 * Gi.length) d5, .int .i64 0]) (T.take (i + 1)) := fun h => by
        have h1 := (HCl.out h).later hb
        have h2 := CellsOf.one (c := c5) (e := d5) (L := 0) t1 t2
        rw [partS_len, partM_len] at h2
        have h3 := h1.append h2
        rw [HTi.out]
        exact h3
      have HC3 := Lib.hid hC3
      have Ha := Lib.hid (H3.out.call ((Below.refl _ _).alloc (Nat.le_refl _) (.cells #[.slice a5 Gi.length c5, .slice b5 (4 * Gi.length) d5, .int .i64 0] 24)))
      have Hus : Hid (VAt (w5.alloc (.cells #[.slice a5 Gi.length c5, .slice b5 (4 * Gi.length) d5, .int .i64 0] 24)) (some ⟨w5.heap.size, 0, none⟩) [.slice a5 Gi.length c5, .slice b5 (4 * Gi.length) d5, .int .i64 0]) := Lib.hid (Row.new w5 #[.slice a5 Gi.length c5, .slice b5 (4 * Gi.length) d5, .int .i64 0] 24).at
      have Hu1 : Hid (∀ u ∈ ([.slice a5 Gi.length c5, .slice b5 (4 * Gi.length) d5, .int .i64 0] : List Value), u.oneCell' = true) := Lib.hid (by
        intro u hu
        simp only [List.mem_cons, List.not_mem_nil, or_false] at hu
        rcases hu with rfl | rfl | rfl <;> rfl)
      have Hl1 := Lib.hid Ha.out.below.size
      clear hC3 t1 t2 ho1 ho2 hci HP
      generalize Gi.length = gl at *
      have Hum : Hid (([.slice a5 gl c5, .slice b5 (4 * gl) d5, .int .i64 0] : List Value).length = 1 * 3) := Lib.hid rfl
      go_wp2_with (with_reducible refine wpList_append_wide rfl (.tmp 16) (.tmp 20) 27 27 rfl w.heap.size 24 i0 _ 56 3 Try.underlying27 Try.underlying27 hi0 hz0 hz1 (by decide) hz2 Hzc.out A i C vs rfl Hvl.out hiC (Ha.out.sl (k := 0) rfl) (some ⟨w5.heap.size, 0, none⟩) 1 1 [.slice a5 gl c5, .slice b5 (4 * gl) d5, .int .i64 0] rfl Hum.out Hus.out Hu1.out (by omega) (by omega) Hl1.out ?_; intro A7 e7 w7 hle hO7 hT7 hA7; have HO7a := Lib.hid hO7; have HT7a := Lib.hid hT7; have HA7a := Lib.hid hA7; clear hO7 hT7 hA7)
      have H7 := Lib.hid (Ha.out.grow (k := 0) rfl HO7a.out HT7a.out HA7a.out)
      have HO7 := Lib.hid ((HO3.out.later ((Below.refl _ _).alloc (Nat.le_refl _) _) (Nat.le_refl _)).turned (Ha.out.sl (k := 0) rfl) (show (24 : TypeId) ≠ 3 from by decide) (show (24 : TypeId) ≠ 22 from by decide) HT7a.out)
      have HC7 : Hid (B0 ≤ w.heap.size → CellsOf w7 B0 (vs ++ [.slice a5 gl c5, .slice b5 (4 * gl) d5, .int .i64 0]) (T.take (i + 1))) := Lib.hid (fun h => ((HC3.out h).later ((Below.refl _ _).alloc (Nat.le_refl _) _)).turned (show (24 : TypeId) ≠ 3 from by decide) h (Ha.out.sl (k := 0) rfl) HT7a.out)
      go_roundg (gs.length - (i + 1))
      case measure => omega
      case rel =>
        refine ⟨i + 1, A7, e7, _, by omega, rfl, by go_num, rfl, hle, HO7.out, HC7.out, ?_, H7.out⟩
        rw [List.length_append, Hvl.out]; show i * 3 + 3 = (i + 1) * 3; omega
    · obtain rfl : i = gs.length := by omega
      have c3 := Hh.out.cell (k := 0) (i := 2) rfl rfl
      have HC0 : Hid (B0 ≤ w.heap.size → CellsOf wr B0 vs (T ++ List.replicate 0 ([], [], 1))) := Lib.hid (fun h => by
        have g := HCl.out h
        rw [List.take_of_length_le (by rw [← HT.out, List.length_map]; exact Nat.le_refl _)] at g
        simpa using g)
      have HTl : Hid (T.length = gs.length) := Lib.hid (by rw [← HT.out, List.length_map])
      clear HCl HO HPt HT HGn
      go_wp2_with fail
      go_loopg [25, 3] lp (fun g v s3 wr => ∃ (k : Nat) (A : Option Addr) (C : Nat) (vs : List Value), k ≤ lp ∧ g = lp - k ∧ v = .int .i64 k ∧ s3 = .slice A (gs.length + k) C ∧ gs.length + k ≤ C ∧ (B0 ≤ w.heap.size → CellsOf wr B0 vs (T ++ List.replicate k ([], [], 1))) ∧ vs.length = (gs.length + k) * 3 ∧ HH w wr [(w.heap.size, rowO 24 [.slice aS n cS, .slice aM N cM, .int .i64 (lp : Int)])] [⟨A, C * 3, 24, vs⟩])
      case atStart => exact ⟨0, A, C, vs, Nat.zero_le _, rfl, rfl, rfl, hiC, HC0.out, Hvl.out, Hh.out⟩
      case round =>
        obtain ⟨k, A, C, vs, hk, rfl, rfl, rfl, hkC, hc, hvl, hh⟩ := hrel
        replace HC0 := Lib.hid hc
        replace Hh := Lib.hid hh
        replace Hvl := Lib.hid hvl
        clear hc hh hvl
        by_cases hkl : k < lp
        · have Ha := Lib.hid (Hh.out.call ((Below.refl _ _).alloc (Nat.le_refl _) (.cells #[.slice none 0 0, .slice none 0 0, .int .i64 1] 24)))
          have Hus : Hid (VAt (wr.alloc (.cells #[.slice none 0 0, .slice none 0 0, .int .i64 1] 24)) (some ⟨wr.heap.size, 0, none⟩) [.slice none 0 0, .slice none 0 0, .int .i64 1]) := Lib.hid (Row.new wr #[.slice none 0 0, .slice none 0 0, .int .i64 1] 24).at
          have Hu1 : Hid (∀ u ∈ ([.slice none 0 0, .slice none 0 0, .int .i64 1] : List Value), u.oneCell' = true) := Lib.hid (by
            intro u hu
            simp only [List.mem_cons, List.not_mem_nil, or_false] at hu
            rcases hu with rfl | rfl | rfl <;> rfl)
          have Hum : Hid (([.slice none 0 0, .slice none 0 0, .int .i64 1] : List Value).length = 1 * 3) := Lib.hid rfl
          have Hl1 := Lib.hid Ha.out.below.size
          have HC3 : Hid (B0 ≤ w.heap.size → CellsOf wr B0 (vs ++ [.slice none 0 0, .slice none 0 0, .int .i64 1]) (T ++ List.replicate (k + 1) ([], [], 1))) := Lib.hid (fun h => by
            rw [List.replicate_succ', ← List.append_assoc]
            exact (HC0.out h).append (CellsOf.one (S := []) (M := []) (TI.nil _ _) (TI.nil _ _)))
          go_wp2_with (with_reducible refine wpList_append_wide rfl (.tmp 27) (.tmp 29) 27 27 rfl w.heap.size 24 i0 _ 56 3 Try.underlying27 Try.underlying27 hi0 hz0 hz1 (by decide) hz2 Hzc.out A (gs.length + k) C vs rfl Hvl.out hkC (Ha.out.sl (k := 0) rfl) (some ⟨wr.heap.size, 0, none⟩) 1 1 [.slice none 0 0, .slice none 0 0, .int .i64 1] rfl Hum.out Hus.out Hu1.out (by omega) (by omega) Hl1.out ?_; intro A7 e7 w7 hle hO7 hT7 hA7; have HO7a := Lib.hid hO7; have HT7a := Lib.hid hT7; have HA7a := Lib.hid hA7; clear hO7 hT7 hA7)
          have H7 := Lib.hid (Ha.out.grow (k := 0) rfl HO7a.out HT7a.out HA7a.out)
          have HC7 : Hid (B0 ≤ w.heap.size → CellsOf w7 B0 (vs ++ [.slice none 0 0, .slice none 0 0, .int .i64 1]) (T ++ List.replicate (k + 1) ([], [], 1))) := Lib.hid (fun h => ((HC3.out h).later ((Below.refl _ _).alloc (Nat.le_refl _) _)).turned (show (24 : TypeId) ≠ 3 from by decide) h (Ha.out.sl (k := 0) rfl) HT7a.out)
          go_roundg (lp - (k + 1))
          case measure => omega
          case rel =>
            refine ⟨k + 1, A7, e7, _, by omega, rfl, by go_num, rfl, hle, HC7.out, ?_, H7.out⟩
            rw [List.length_append, Hvl.out]; show (gs.length + k) * 3 + 3 = (gs.length + (k + 1)) * 3; omega
        · obtain rfl : k = lp := by omega
          go_wp2_with fail
          go_ret
          refine ⟨A, C, rfl, fun h => ⟨vs, Hh.out.sl (k := 0) rfl, ?_, HC0.out h⟩, Hh.out.below⟩
          rw [List.length_append, List.length_replicate, HTl.out]; exact hkC
end Go.Proofs.Ytmjoijfafachhaa
