/- The reference: Split, one, Factors. -/
import Derived.Test.YtmjoijfafachhaaRFtW
import Derived.Test.YtmjoijfafachhaaSplW
import Derived.Test.YtmjoijfafachhaaRFdW
import Derived.Test.YtmjoijfafachhaaFtsW
import Derived.Deep.RegionHeld3
namespace Go.Proofs.Ytmjoijfafachhaa
open Go Go.RowKit
set_option maxRecDepth 100000 in
set_option maxHeartbeats 4000000 in
theorem rsplit_any (S M : List Int) (L : Int) (aS aM : Option Addr) (cS cM : Nat) (w : World) (hv : vldB S M L = true) (hS : IntsAt w aS S) (hM : IntsAt w aM M) (B0 : Nat) :
    Calls Try.prog 18 #[.agg #[.slice aS S.length cS, .slice aM M.length cM, .int .i64 L]] w fun e w' => ∃ A C, e = .returned (.slice A (splitL S M L).length C) ∧ (B0 ≤ w.heap.size → DLO w' w.heap.size B0 A C (splitL S M L)) ∧ Below w.heap.size w w' := by
  have hs := vldB_shape hv
  have hm := hs.mates
  have hfw := hs.few
  have hlo := hs.lo
  have hhi := hs.hi
  have HGr : Hid (∀ W', Below w.heap.size w W' → Calls Try.prog 54 #[.slice aM M.length cM] W' fun e w' => ∃ a c, e = .returned (.slice a (grpOf M S.length).length c) ∧ OwnRows w' W'.heap.size a c ((grpOf M S.length).map nats) ∧ Below W'.heap.size W' w') := Lib.hid fun W' h => rgraph_any M S.length aM cM W' hfw hs.len hm (hM.later h)
  have HPt : Hid (∀ i, i < (grpOf M S.length).length → ∀ aG cG W', Below w.heap.size w W' → IntsAt W' aG (nats ((grpOf M S.length).getD i [])) → Calls Try.prog 55 #[.agg #[.slice aS S.length cS, .slice aM M.length cM, .int .i64 L], .slice aG ((grpOf M S.length).getD i []).length cG] W' fun e w' => ∃ a b c d, e = .returned (.agg #[.slice a ((grpOf M S.length).getD i []).length c, .slice b (4 * ((grpOf M S.length).getD i []).length) d, .int .i64 0]) ∧ Own w' W'.heap.size 3 a c (ints (partS S ((grpOf M S.length).getD i []))) ∧ Own w' W'.heap.size 3 b d (ints (partM M ((grpOf M S.length).getD i []))) ∧ Below W'.heap.size W' w') := Lib.hid fun i hi aG cG W' h hg => by
    have hmem : (grpOf M S.length).getD i [] ∈ grpOf M S.length := by
      rw [List.getD_eq_getElem?_getD, List.getElem?_eq_getElem hi]; exact List.getElem_mem hi
    exact rpart_any S M L aS aM aG cS cM cG _ W' hv (grp_whole hm hmem).1 (hS.later h) (hM.later h) hg
  have hgl := grp_len M S.length
  have HGn : Hid (∀ i, i < (grpOf M S.length).length → ((grpOf M S.length).getD i []).length ≤ 1000000) := Lib.hid fun i hi => by
    have hmem : (grpOf M S.length).getD i [] ∈ grpOf M S.length := by
      rw [List.getD_eq_getElem?_getD, List.getElem?_eq_getElem hi]; exact List.getElem_mem hi
    have hw := (grp_whole hm hmem).1
    have := hw.nd.length_le_of_subset (l₂ := List.range S.length) fun c hc => List.mem_range.2 (hw.lt c hc)
    rw [List.length_range] at this; omega
  obtain ⟨lp, rfl⟩ : ∃ lp : Nat, L = (lp : Int) := ⟨L.toNat, by omega⟩
  have HSp : Hid (splitL S M (lp : Int) = (grpOf M S.length).map (fun G => (partS S G, partM M G, 0)) ++ List.replicate lp ([], [], 1)) := Lib.hid (by unfold splitL; rw [Int.toNat_natCast])
  have hlp64 : lp ≤ 64 := by omega
  rw [HSp.out, List.length_append, List.length_map, List.length_replicate]
  obtain ⟨i0, hi0, hz0, hz1, hz2⟩ := info_parts Try.info24
  have Hzc : Hid ((Value.agg #[.slice none 0 0, .slice none 0 0, .int .i64 0]).cells.size = 3) := Lib.hid rfl
  have H0 := Lib.hid ((HH.start w).alloc #[.slice aS S.length cS, .slice aM M.length cM, .int .i64 (lp : Int)] 24 rfl rfl)
  clear hs hm hv hS hM HSp
  generalize grpOf M S.length = gs at *
  generalize hT : gs.map (fun G => ((partS S G, partM M G, (0 : Int)) : Dgm)) = T at *
  have HT := Lib.hid hT
  clear hT
  generalize S.length = n at *
  generalize M.length = N at *
  go_enter Try.func18, Try.ntmps18
  have c2 := H0.out.cell (k := 0) (i := 1) rfl rfl
  go_wp2_with fail
  clear c2
  refine (HGr.out _ H0.out.below).mono ?_
  rintro e w2 ⟨aP, cP, rfl, ho, hb⟩
  have H2 := Lib.hid ((H0.out.call hb).addNil 24)
  have HO := Lib.hid ho
  obtain ⟨q, hqe⟩ : ∃ q, q = (w.alloc (.cells #[.slice aS n cS, .slice aM N cM, .int .i64 (lp : Int)] 24)).heap.size := ⟨_, rfl⟩
  have hq : w.heap.size ≤ q := by rw [hqe]; exact H0.out.below.size
  rw [← hqe] at HO
  clear hqe hb ho H0 HGr
  go_wp2_with fail
  go_loopg [5, 3] gs.length (fun g v s3 wr => ∃ (i : Nat) (A : Option Addr) (C : Nat) (vs : List Value), i ≤ gs.length ∧ g = gs.length - i ∧ v = .int .i64 i ∧ s3 = .slice A i C ∧ i ≤ C ∧ OwnRows wr q aP cP (gs.map nats) ∧ (B0 ≤ w.heap.size → CellsOf wr B0 vs (T.take i)) ∧ vs.length = i * 3 ∧ HH w wr [(w.heap.size, rowO 24 [.slice aS n cS, .slice aM N cM, .int .i64 (lp : Int)])] [⟨A, C * 3, 24, vs⟩])
  case atStart => exact ⟨0, none, 0, [], Nat.zero_le _, rfl, rfl, rfl, Nat.le_refl _, HO.out, fun _ => CellsOf.nil _ _, rfl, H2.out⟩
  case round =>
    obtain ⟨i, A, C, vs, hi, rfl, rfl, rfl, hiC, ho, hc, hvl, hh⟩ := hrel
    replace HO := Lib.hid ho
    have HCl := Lib.hid hc
    have Hh := Lib.hid hh
    have Hvl := Lib.hid hvl
    clear ho hc hh H2 hvl
    by_cases hil : i < gs.length
    · obtain ⟨b1, o1, rfl, _, _, hrow⟩ := HO.out.open (by rw [List.length_map]; omega)
      obtain ⟨a', c', hci, hro⟩ := hrow i (nats (gs.getD i [])) (by rw [List.getElem?_map, getD_some (d := []) hil]; rfl)
      rw [nats_length] at hci
      have c1 := Hh.out.cell (k := 0) (i := 0) rfl rfl
      have c2 := Hh.out.cell (k := 0) (i := 1) rfl rfl
      have c3 := Hh.out.cell (k := 0) (i := 2) rfl rfl
      have hro0 := hro.later (w' := wr.drew) (Below.refl _ _).drew (Nat.le_refl _)
      have D0 := Lib.hid Hh.out.drew
      have HP := Lib.hid (HPt.out i hil a' c' wr.drew D0.out.below hro0.ints)
      have hgn : (gs.getD i []).length ≤ 1000000 := HGn.out i hil
      have hTi : T.take (i + 1) = T.take i ++ [(partS S (gs.getD i []), partM M (gs.getD i []), 0)] := by
        rw [List.take_add_one, ← HT.out, List.getElem?_map, getD_some (d := []) hil]; rfl
      have HTi := Lib.hid hTi
      clear hTi
      generalize gs.getD i [] = Gi at *
      have hne8 : ∀ x, A = some x → x.block ≠ b1 := by
        obtain ⟨us, hown, _⟩ := HO.out
        intro x hx e
        have h1 : Own wr w.heap.size 24 A (C * 3) vs := Hh.out.sl (k := 0) rfl
        obtain ⟨b9, o9, e9, _, _, _, _⟩ | ⟨e9, _⟩ : (∃ b9 o9, A = some ⟨b9, o9, none⟩ ∧ True ∧ True ∧ True ∧ True) ∨ (A = none ∧ True) := by
          cases A with
          | none => exact .inr ⟨rfl, trivial⟩
          | some z => 
            rcases h1 with ⟨g, _⟩ | ⟨b', off', cur, g, _⟩
            · cases g
            · exact .inl ⟨b', off', g, trivial, trivial, trivial, trivial⟩
        · rcases h1 with ⟨g, _⟩ | ⟨b', off', cur, g, _, g2, _⟩
          · rw [e9] at g; cases g
          · rw [g] at hx; cases hx
            exact hown.ne g2 (by decide) _ rfl e.symm
        · rw [e9] at hx; cases hx
      have Hne8 := Lib.hid hne8
      have hcl := World.block_lt_of_cell? _ _ hci
      have Hcl : Hid (b1 < wr.drew.heap.size) := Lib.hid hcl
      have Q0 : Hid (wr.drew.cell? ⟨w.heap.size, 0, none⟩ = some (.slice aS n cS) ∧ wr.drew.cell? ⟨w.heap.size, 1, none⟩ = some (.slice aM N cM) ∧ wr.drew.cell? ⟨w.heap.size, 2, none⟩ = some (.int .i64 (lp : Int)) ∧ wr.drew.cell? ⟨b1, o1 + i, none⟩ = some (.slice a' Gi.length c')) := Lib.hid ⟨D0.out.cell (k := 0) (i := 0) rfl rfl, D0.out.cell (k := 0) (i := 1) rfl rfl, D0.out.cell (k := 0) (i := 2) rfl rfl, hci⟩
      have hq0 := Q0.out
      have HO0 := Lib.hid (HO.out.later (Below.refl _ _).drew (Nat.le_refl _))
      have HCl0 : Hid (B0 ≤ w.heap.size → CellsOf wr.drew B0 vs (T.take i)) := Lib.hid fun h => (HCl.out h).later (Below.refl _ _).drew
      have hgs64 : gs.length ≤ 1000 := by omega
      clear hrow hro hro0 hcl hne8 c1 c2 c3 hci
      go_upto_region 6 with fail
      go_region_held3 (fun W' => W'.cell? ⟨w.heap.size, 0, none⟩ = some (.slice aS n cS) ∧ W'.cell? ⟨w.heap.size, 1, none⟩ = some (.slice aM N cM) ∧ W'.cell? ⟨w.heap.size, 2, none⟩ = some (.int .i64 (lp : Int)) ∧ W'.cell? ⟨b1, o1 + i, none⟩ = some (.slice a' Gi.length c'))
        (first
          | with_reducible exact Q0.out
          | with_reducible exact Q1.out
          | with_reducible exact Q2.out
          | with_reducible exact Q3.out)
        (first
          | ((with_reducible refine (HP.out).mono ?_); rintro e w5 ⟨a5, b5, c5, d5, rfl, ho1, ho2, hb⟩; have H3 := Lib.hid (D0.out.call hb); have Q1 : Hid (w5.cell? ⟨w.heap.size, 0, none⟩ = some (.slice aS n cS) ∧ w5.cell? ⟨w.heap.size, 1, none⟩ = some (.slice aM N cM) ∧ w5.cell? ⟨w.heap.size, 2, none⟩ = some (.int .i64 (lp : Int)) ∧ w5.cell? ⟨b1, o1 + i, none⟩ = some (.slice a' Gi.length c')) := Lib.hid ⟨H3.out.cell (k := 0) (i := 0) rfl rfl, H3.out.cell (k := 0) (i := 1) rfl rfl, H3.out.cell (k := 0) (i := 2) rfl rfl, (hb.cell (p := ⟨b1, o1 + i, none⟩) Hcl.out).trans Q0.out.2.2.2⟩; have HO3 := Lib.hid (HO0.out.later hb (Nat.le_refl _)); have t1 : Hid (TI w5 B0 a5 (partS S Gi)) := Lib.hid (TI.own ho1); have t2 : Hid (TI w5 B0 b5 (partM M Gi)) := Lib.hid (TI.own ho2); have HC3 : Hid (B0 ≤ w.heap.size → CellsOf w5 B0 (vs ++ [.slice a5 Gi.length c5, .slice b5 (4 * Gi.length) d5, .int .i64 0]) (T.take (i + 1))) := Lib.hid (fun h => by
                have h1 := (HCl0.out h).later hb
                have h2 := CellsOf.one (c := c5) (e := d5) (L := 0) t1.out t2.out
                rw [partS_len, partM_len] at h2
                have h3 := h1.append h2
                rw [HTi.out]
                exact h3); have Ha := Lib.hid (H3.out.call ((Below.refl _ _).alloc (Nat.le_refl _) (.cells #[.slice a5 Gi.length c5, .slice b5 (4 * Gi.length) d5, .int .i64 0] 24))); have Q2 : Hid ((w5.alloc (.cells #[.slice a5 Gi.length c5, .slice b5 (4 * Gi.length) d5, .int .i64 0] 24)).cell? ⟨w.heap.size, 0, none⟩ = some (.slice aS n cS) ∧ (w5.alloc (.cells #[.slice a5 Gi.length c5, .slice b5 (4 * Gi.length) d5, .int .i64 0] 24)).cell? ⟨w.heap.size, 1, none⟩ = some (.slice aM N cM) ∧ (w5.alloc (.cells #[.slice a5 Gi.length c5, .slice b5 (4 * Gi.length) d5, .int .i64 0] 24)).cell? ⟨w.heap.size, 2, none⟩ = some (.int .i64 (lp : Int)) ∧ (w5.alloc (.cells #[.slice a5 Gi.length c5, .slice b5 (4 * Gi.length) d5, .int .i64 0] 24)).cell? ⟨b1, o1 + i, none⟩ = some (.slice a' Gi.length c')) := Lib.hid ⟨Ha.out.cell (k := 0) (i := 0) rfl rfl, Ha.out.cell (k := 0) (i := 1) rfl rfl, Ha.out.cell (k := 0) (i := 2) rfl rfl, (cell_keptB (Below.heap_alloc w5 _ b1 (World.block_lt_of_cell? _ _ Q1.out.2.2.2))).trans Q1.out.2.2.2⟩; have Hus : Hid (VAt (w5.alloc (.cells #[.slice a5 Gi.length c5, .slice b5 (4 * Gi.length) d5, .int .i64 0] 24)) (some ⟨w5.heap.size, 0, none⟩) [.slice a5 Gi.length c5, .slice b5 (4 * Gi.length) d5, .int .i64 0]) := Lib.hid (Row.new w5 #[.slice a5 Gi.length c5, .slice b5 (4 * Gi.length) d5, .int .i64 0] 24).at; have Hu1 : Hid (∀ u ∈ ([.slice a5 Gi.length c5, .slice b5 (4 * Gi.length) d5, .int .i64 0] : List Value), u.oneCell' = true) := Lib.hid (by
                intro u hu
                simp only [List.mem_cons, List.not_mem_nil, or_false] at hu
                rcases hu with rfl | rfl | rfl <;> rfl); have Hl1 := Lib.hid Ha.out.below.size; have Hum : Hid (([.slice a5 Gi.length c5, .slice b5 (4 * Gi.length) d5, .int .i64 0] : List Value).length = 1 * 3) := Lib.hid rfl; clear ho1 ho2 hb)
          | ((with_reducible refine step_append_wide rfl (.tmp 16) (.tmp 23) 27 27 rfl w.heap.size 24 i0 _ 56 3 Try.underlying27 Try.underlying27 hi0 hz0 hz1 (by decide) hz2 Hzc.out A i C vs rfl Hvl.out hiC (Ha.out.sl (k := 0) rfl) (some ⟨w5.heap.size, 0, none⟩) 1 1 [.slice a5 Gi.length c5, .slice b5 (4 * Gi.length) d5, .int .i64 0] rfl Hum.out Hus.out Hu1.out (by omega) (by omega) Hl1.out ?_); intro A7 e7 w7 hle hO7 hT7 hA7; have HO7a := Lib.hid hO7; have HT7a := Lib.hid hT7; have HA7a := Lib.hid hA7; have Hle := Lib.hid hle; have H7 := Lib.hid (Ha.out.grow (k := 0) rfl HO7a.out HT7a.out HA7a.out); have Q3 : Hid (w7.cell? ⟨w.heap.size, 0, none⟩ = some (.slice aS n cS) ∧ w7.cell? ⟨w.heap.size, 1, none⟩ = some (.slice aM N cM) ∧ w7.cell? ⟨w.heap.size, 2, none⟩ = some (.int .i64 (lp : Int)) ∧ w7.cell? ⟨b1, o1 + i, none⟩ = some (.slice a' Gi.length c')) := Lib.hid ⟨H7.out.cell (k := 0) (i := 0) rfl rfl, H7.out.cell (k := 0) (i := 1) rfl rfl, H7.out.cell (k := 0) (i := 2) rfl rfl, (cell_keptB (hT7.block b1 (World.block_lt_of_cell? _ _ Q2.out.2.2.2) (fun x hx => Hne8.out x hx))).trans Q2.out.2.2.2⟩; clear hO7 hT7 hA7 hle))
      have HO7 := Lib.hid ((HO3.out.later ((Below.refl _ _).alloc (Nat.le_refl _) _) (Nat.le_refl _)).turned (Ha.out.sl (k := 0) rfl) (show (24 : TypeId) ≠ 3 from by decide) (show (24 : TypeId) ≠ 22 from by decide) HT7a.out)
      have HC7 : Hid (B0 ≤ w.heap.size → CellsOf w7 B0 (vs ++ [.slice a5 Gi.length c5, .slice b5 (4 * Gi.length) d5, .int .i64 0]) (T.take (i + 1))) := Lib.hid (fun h => ((HC3.out h).later ((Below.refl _ _).alloc (Nat.le_refl _) _)).turned (show (24 : TypeId) ≠ 3 from by decide) h (Ha.out.sl (k := 0) rfl) HT7a.out)
      go_wp2_with fail
      go_roundg (gs.length - (i + 1))
      case measure => omega
      case rel =>
        refine ⟨i + 1, A7, e7, _, by omega, rfl, by go_num, rfl, Hle.out, HO7.out, HC7.out, ?_, H7.out⟩
        rw [List.length_append, Hvl.out]; show i * 3 + 3 = (i + 1) * 3; omega
    · obtain rfl : i = gs.length := by omega
      have c3 := Hh.out.cell (k := 0) (i := 2) rfl rfl
      have HC0 : Hid (B0 ≤ w.heap.size → CellsOf wr B0 vs (T ++ List.replicate 0 ([], [], 1))) := Lib.hid (fun h => by
        have g := HCl.out h
        rw [List.take_of_length_le (by rw [← HT.out, List.length_map]; exact Nat.le_refl _)] at g
        simpa using g)
      have HTl : Hid (T.length = gs.length) := Lib.hid (by rw [← HT.out, List.length_map])
      clear HCl HO HPt HT HGn c3
      go_wp2_with fail
      go_loopg [6, 3] lp (fun g v s3 wr => ∃ (k : Nat) (A : Option Addr) (C : Nat) (vs : List Value), k ≤ lp ∧ g = lp - k ∧ v = .int .i64 k ∧ s3 = .slice A (gs.length + k) C ∧ gs.length + k ≤ C ∧ (B0 ≤ w.heap.size → CellsOf wr B0 vs (T ++ List.replicate k ([], [], 1))) ∧ vs.length = (gs.length + k) * 3 ∧ HH w wr [(w.heap.size, rowO 24 [.slice aS n cS, .slice aM N cM, .int .i64 (lp : Int)])] [⟨A, C * 3, 24, vs⟩])
      case atStart => exact ⟨0, A, C, vs, Nat.zero_le _, rfl, rfl, rfl, hiC, HC0.out, Hvl.out, Hh.out⟩
      case round =>
        obtain ⟨k, A, C, vs, hk, rfl, rfl, rfl, hkC, hc, hvl, hh⟩ := hrel
        replace HC0 := Lib.hid hc
        replace Hh := Lib.hid hh
        replace Hvl := Lib.hid hvl
        clear hc hh hvl
        have c3 := Hh.out.cell (k := 0) (i := 2) rfl rfl
        by_cases hkl : k < lp
        · have Ha := Lib.hid (Hh.out.call ((Below.refl _ _).alloc (Nat.le_refl _) (.cells #[.slice none 0 0, .slice none 0 0, .int .i64 1] 24)))
          have Hus : Hid (VAt (wr.alloc (.cells #[.slice none 0 0, .slice none 0 0, .int .i64 1] 24)) (some ⟨wr.heap.size, 0, none⟩) [.slice none 0 0, .slice none 0 0, .int .i64 1]) := Lib.hid (Row.new wr #[.slice none 0 0, .slice none 0 0, .int .i64 1] 24).at
          have Hu1 : Hid (∀ u ∈ ([.slice none 0 0, .slice none 0 0, .int .i64 1] : List Value), u.oneCell' = true) := Lib.hid (by
            intro u hu
            simp only [List.mem_cons, List.not_mem_nil, or_false] at hu
            rcases hu with rfl | rfl | rfl <;> rfl)
          have Hum : Hid (([.slice none 0 0, .slice none 0 0, .int .i64 1] : List Value).length = 1 * 3) := Lib.hid rfl
          have Hl1 := Lib.hid Ha.out.below.size
          have HC3 : Hid (B0 ≤ w.heap.size → CellsOf wr B0 (vs ++ [.slice none 0 0, .slice none 0 0, .int .i64 1]) (T ++ List.replicate (k + 1) ([], [], 1))) := Lib.hid (fun h => by
            rw [List.replicate_succ', ← List.append_assoc]
            exact (HC0.out h).append (CellsOf.one (S := []) (M := []) (TI.nil _ _) (TI.nil _ _)))
          go_wp2_with (with_reducible refine wpList_append_wide rfl (.tmp 31) (.tmp 33) 27 27 rfl w.heap.size 24 i0 _ 56 3 Try.underlying27 Try.underlying27 hi0 hz0 hz1 (by decide) hz2 Hzc.out A (gs.length + k) C vs rfl Hvl.out hkC (Ha.out.sl (k := 0) rfl) (some ⟨wr.heap.size, 0, none⟩) 1 1 [.slice none 0 0, .slice none 0 0, .int .i64 1] rfl Hum.out Hus.out Hu1.out (by omega) (by omega) Hl1.out ?_; intro A7 e7 w7 hle hO7 hT7 hA7; have HO7a := Lib.hid hO7; have HT7a := Lib.hid hT7; have HA7a := Lib.hid hA7; clear hO7 hT7 hA7)
          have H7 := Lib.hid (Ha.out.grow (k := 0) rfl HO7a.out HT7a.out HA7a.out)
          have HC7 : Hid (B0 ≤ w.heap.size → CellsOf w7 B0 (vs ++ [.slice none 0 0, .slice none 0 0, .int .i64 1]) (T ++ List.replicate (k + 1) ([], [], 1))) := Lib.hid (fun h => ((HC3.out h).later ((Below.refl _ _).alloc (Nat.le_refl _) _)).turned (show (24 : TypeId) ≠ 3 from by decide) h (Ha.out.sl (k := 0) rfl) HT7a.out)
          go_roundg (lp - (k + 1))
          case measure => omega
          case rel =>
            refine ⟨k + 1, A7, e7, _, by omega, rfl, by go_num, rfl, hle, HC7.out, ?_, H7.out⟩
            rw [List.length_append, Hvl.out]; show (gs.length + k) * 3 + 3 = (gs.length + (k + 1)) * 3; omega
        · obtain rfl : k = lp := by omega
          go_wp2_with fail
          go_ret
          refine ⟨A, C, rfl, fun h => ⟨vs, Hh.out.sl (k := 0) rfl, ?_, HC0.out h⟩, Hh.out.below⟩
          rw [List.length_append, List.length_replicate, HTl.out]; exact hkC
/-- What the reference's one gives: a contract. -/
def ROneAt (S M : List Int) (L : Int) : Prop := ∀ (aS aM : Option Addr) (cS cM : Nat) (w : World) (B0 : Nat), B0 ≤ w.heap.size → TI w B0 aS S → TI w B0 aM M → Calls Try.prog 72 #[.agg #[.slice aS S.length cS, .slice aM M.length cM, .int .i64 L]] w fun e w' => ∃ A C, e = .returned (.slice A (primeL S M L).length C) ∧ DLO w' w.heap.size B0 A C (primeL S M L) ∧ Below w.heap.size w w'
set_option maxRecDepth 100000 in
set_option maxHeartbeats 4000000 in
theorem rone_leaf (S M : List Int) (L : Int) (hv : vldB S M L = true) (hc : cutsL S M = []) : ROneAt S M L := fun aS aM cS cM w B0 hB0 hS hM => by
  have HC : Hid (∀ W', Below w.heap.size w W' → Calls Try.prog 42 #[.agg #[.slice aS S.length cS, .slice aM M.length cM, .int .i64 L]] W' fun e w' => ∃ A C, e = .returned (.slice A 0 C) ∧ Below W'.heap.size W' w') := Lib.hid fun W' h => (rcuts_any S M L aS aM cS cM W' hv (hS.at.later h) (hM.at.later h)).mono fun e w' ⟨A, C, he, _, _, hb⟩ => ⟨A, C, by rw [he, hc]; rfl, hb⟩
  rw [primeL_none hc]
  have HS := Lib.hid hS
  have HM := Lib.hid hM
  have H0 := Lib.hid ((HH.start w).alloc #[.slice aS S.length cS, .slice aM M.length cM, .int .i64 L] 24 rfl rfl)
  have HL : Hid (([(S, M, L)] : List Dgm).length = 1) := Lib.hid rfl
  rw [HL.out]
  clear hS hM hc hv
  go_enter Try.func72, Try.ntmps72
  go_wp2_with fail
  refine (HC.out _ H0.out.below).mono ?_
  rintro e w1 ⟨A1, C1, rfl, hb⟩
  have H1 := Lib.hid (H0.out.call hb)
  clear hb H0 HC
  have k0 := H1.out.cell (k := 0) (i := 0) rfl rfl
  have k1 := H1.out.cell (k := 0) (i := 1) rfl rfl
  have k2 := H1.out.cell (k := 0) (i := 2) rfl rfl
  go_wp2_with fail
  go_ret
  have hb : Below w.heap.size w (w1.alloc (.cells #[.slice aS S.length cS, .slice aM M.length cM, .int .i64 L] 24)) := H1.out.below.trans ((Below.refl _ _).alloc H1.out.below.size _)
  exact ⟨_, 1, rfl, ⟨_, Own.made #[.slice aS S.length cS, .slice aM M.length cM, .int .i64 L] H1.out.below.size, Nat.le_refl _, CellsOf.one (HS.out.later hb) (HM.out.later hb)⟩, hb⟩
set_option maxRecDepth 100000 in
set_option maxHeartbeats 4000000 in
theorem rone_fork (S M : List Int) (L : Int) (hv : vldB S M L = true) (p : Nat × Nat) (l : List (Nat × Nat)) (hc : cutsL S M = p :: l) (hA : ROneAt (facA S M p.1 p.2).1 (facA S M p.1 p.2).2.1 0) (hB : ROneAt (facB S M p.1 p.2).1 (facB S M p.1 p.2).2.1 0) : ROneAt S M L := fun aS aM cS cM w B0 hB0 hS hM => by
  obtain ⟨x, y⟩ := p
  obtain ⟨m1, m2, m3, m4, m5, m6⟩ := (mem_cuts hv).1 (show (x, y) ∈ cutsL S M by rw [hc]; exact List.mem_cons_self)
  have m1 : x < y := m1
  have m2 : y < 4 * S.length := m2
  obtain ⟨_, va, vb, la, lb⟩ := fac_cuts0 hv hc
  have hfw := (vldB_shape hv).few
  have na := primeL_len va
  have nb := primeL_len vb
  have hcl : (cutsL S M).length = l.length + 1 := by rw [hc]; rfl
  have hpc := primeL_cons hv hc
  have HC : Hid (∀ W', Below w.heap.size w W' → Calls Try.prog 42 #[.agg #[.slice aS S.length cS, .slice aM M.length cM, .int .i64 L]] W' fun e w' => ∃ A C, e = .returned (.slice A (l.length + 1) C) ∧ Own w' W'.heap.size 45 A (C * 2) (prs ((x, y) :: l)) ∧ Below W'.heap.size W' w') := Lib.hid fun W' h => (rcuts_any S M L aS aM cS cM W' hv (hS.at.later h) (hM.at.later h)).mono fun e w' ⟨A, C, he, _, ho, hb⟩ => ⟨A, C, by rw [he, hcl], by rw [← hc]; exact ho, hb⟩
  have HF : Hid (∀ W', Below w.heap.size w W' → Calls Try.prog 25 #[.agg #[.slice aS S.length cS, .slice aM M.length cM, .int .i64 L], .int .i64 (x : Int), .int .i64 (y : Int)] W' fun e w' => ∃ a b c d a' b' c' d', e = .returned (.tuple #[.agg #[.slice a (facA S M x y).1.length c, .slice b (facA S M x y).2.1.length d, .int .i64 0], .agg #[.slice a' (facB S M x y).1.length c', .slice b' (facB S M x y).2.1.length d', .int .i64 0]]) ∧
      Own w' W'.heap.size 3 a c (ints (facA S M x y).1) ∧ Own w' W'.heap.size 3 b d (ints (facA S M x y).2.1) ∧ Own w' W'.heap.size 3 a' c' (ints (facB S M x y).1) ∧ Own w' W'.heap.size 3 b' d' (ints (facB S M x y).2.1) ∧ Below W'.heap.size W' w') := Lib.hid fun W' h =>
    rfactor_yes S M L aS aM cS cM x y W' hv (by omega) m2 m3 m4 (by omega) m5 m6 (hS.at.later h) (hM.at.later h)
  have va : vldB (facA S M x y).1 (facA S M x y).2.1 0 = true := va
  have la : (facA S M x y).1.length < S.length := la
  have lb : (facB S M x y).1.length < S.length := lb
  have hA : ROneAt (facA S M x y).1 (facA S M x y).2.1 0 := hA
  have hB : ROneAt (facB S M x y).1 (facB S M x y).2.1 0 := hB
  have na : (primeL (facA S M x y).1 (facA S M x y).2.1 0).length ≤ 64 := na
  have nb : (primeL (facB S M x y).1 (facB S M x y).2.1 0).length ≤ 64 := nb
  have hpc : primeL S M L = primeL (facA S M x y).1 (facA S M x y).2.1 0 ++ primeL (facB S M x y).1 (facB S M x y).2.1 0 := hpc
  rw [hpc, List.length_append]
  generalize facA S M x y = A at *
  generalize facB S M x y = B at *
  obtain ⟨SA, MA, LA⟩ := A
  obtain ⟨SB, MB, LB⟩ := B
  dsimp only at *
  unfold ROneAt at hA hB
  generalize primeL SA MA 0 = PA at *
  generalize primeL SB MB 0 = PB at *
  have HPA := Lib.hid hA
  have HPB := Lib.hid hB
  have hxl : (x : Int) ≤ 255 := by omega
  have hyl : (y : Int) ≤ 255 := by omega
  clear hS hM hc hcl hv va vb m1 m2 m3 m4 m5 m6 hpc hA hB
  generalize l.length = ll at *
  have d0 : ((ll : Int) + 1 == 0) = false := by rw [beq_eq_false_iff_ne]; omega
  have d1 : decide (S.length ≤ SA.length) = false := decide_eq_false (by omega)
  have d2 : decide (S.length ≤ SB.length) = false := decide_eq_false (by omega)
  have H0 := Lib.hid ((HH.start w).alloc #[.slice aS S.length cS, .slice aM M.length cM, .int .i64 L] 24 rfl rfl)
  go_enter Try.func72, Try.ntmps72
  go_wp2_with fail
  refine (HC.out _ H0.out.below).mono ?_
  rintro e w1 ⟨A1, C1, rfl, ho, hb⟩
  have H1 := Lib.hid (H0.out.addSl hb ho)
  clear ho hb H0 HC
  obtain ⟨bc, oc, rfl, _, _, hcc, _⟩ := (H1.out.sl (k := 0) rfl).open (by show 0 < (prs ((x, y) :: l)).length; rw [prs_len]; simp)
  have hcc : ∀ i v, (prs ((x, y) :: l))[i]? = some v → w1.cell? ⟨bc, oc + i, none⟩ = some v := hcc
  have c0 := hcc 0 _ rfl
  have c1 := hcc 1 _ rfl
  have HKS : Hid (∀ (W' : World) (k : Kn) (s : List SlO), HH w W' ((w.heap.size, rowO 24 [.slice aS S.length cS, .slice aM M.length cM, .int .i64 L]) :: k) (⟨some ⟨bc, oc, none⟩, C1 * 2, 45, prs ((x, y) :: l)⟩ :: s) → W'.cell? ⟨w.heap.size, 0, none⟩ = some (.slice aS S.length cS) ∧ W'.cell? ⟨w.heap.size, 1, none⟩ = some (.slice aM M.length cM) ∧ W'.cell? ⟨w.heap.size, 2, none⟩ = some (.int .i64 L) ∧ W'.cell? ⟨bc, oc, none⟩ = some (.int .i64 (x : Int)) ∧ W'.cell? ⟨bc, oc + 1, none⟩ = some (.int .i64 (y : Int))) := Lib.hid fun W' k s h => by
    obtain ⟨b9, o9, e9, _, _, hc9, _⟩ := (h.sl (k := 0) rfl).open (by show 0 < (prs ((x, y) :: l)).length; rw [prs_len]; simp)
    cases e9
    exact ⟨h.cell (k := 0) (i := 0) rfl rfl, h.cell (k := 0) (i := 1) rfl rfl, h.cell (k := 0) (i := 2) rfl rfl, hc9 0 _ rfl, hc9 1 _ rfl⟩
  clear hcc
  go_upto_region 4 with fail
  have G0 := Lib.hid H1.out.drew
  have G1 := Lib.hid (H1.out.alloc #[.slice none 0 0, .slice none 0 0, .int .i64 0] 24 (b := w1.heap.size) rfl rfl).drew
  have G2 := Lib.hid ((H1.out.alloc #[.slice none 0 0, .slice none 0 0, .int .i64 0] 24 (b := w1.heap.size) rfl rfl).alloc #[.slice none 0 0, .slice none 0 0, .int .i64 0] 24 (b := w1.heap.size + 1) (by simp) rfl).drew
  have Q0 := Lib.hid (HKS.out _ _ _ G0.out)
  have Q1 := Lib.hid (HKS.out _ _ _ G1.out)
  have Q2 := Lib.hid (HKS.out _ _ _ G2.out)
  have q0 := Q0.out
  clear H1
  go_cut [4, 5] (fun s4 s5 wx => ∃ (r4 r5 : Nat) (a5 b5 a6 b6 : Option Addr) (c5 d5 c6 d6 : Nat), s4 = .pointer (some ⟨r4, 0, none⟩) ∧ s5 = .pointer (some ⟨r5, 0, none⟩) ∧ Row wx w.heap.size 24 [.slice aS S.length cS, .slice aM M.length cM, .int .i64 L] ∧ Row wx r4 24 [.slice a5 SA.length c5, .slice b5 MA.length d5, .int .i64 0] ∧ Row wx r5 24 [.slice a6 SB.length c6, .slice b6 MB.length d6, .int .i64 0] ∧ TI wx B0 a5 SA ∧ TI wx B0 b5 MA ∧ TI wx B0 a6 SB ∧ TI wx B0 b6 MB ∧ Below w.heap.size w wx)
  case first =>
    go_region_held3 (fun W' => W'.cell? ⟨w.heap.size, 0, none⟩ = some (.slice aS S.length cS) ∧ W'.cell? ⟨w.heap.size, 1, none⟩ = some (.slice aM M.length cM) ∧ W'.cell? ⟨w.heap.size, 2, none⟩ = some (.int .i64 L) ∧ W'.cell? ⟨bc, oc, none⟩ = some (.int .i64 (x : Int)) ∧ W'.cell? ⟨bc, oc + 1, none⟩ = some (.int .i64 (y : Int)))
      (first
        | with_reducible exact Q0.out
        | with_reducible exact Q1.out
        | with_reducible exact Q2.out
        | with_reducible exact R0.out
        | with_reducible exact R1.out _
        | with_reducible exact R2.out _ _
        | with_reducible exact T1.out _ _ _ _
        | with_reducible exact T1.out _ _ _
        | with_reducible exact T2.out _ _ _
        | with_reducible exact T3.out (.cells #[] 24) _ _ _ _ _ _
        | with_reducible exact U1.out _ _ _ _ _ _
        | with_reducible exact U2.out _ _ _ _ _ _)
      (first
        | ((with_reducible refine (HF.out _ G0.out.below).mono ?_); rintro e w5 ⟨a5, b5, c5, d5, a6, b6, c6, d6, rfl, o1, o2, o3, o4, hb⟩; have F0 := Lib.hid (G0.out.call hb); have R0 := Lib.hid (HKS.out _ _ _ F0.out); have OO := Lib.hid (And.intro (And.intro o1 o2) (And.intro o3 o4)); clear o1 o2 o3 o4 hb; have R1 := Lib.hid (fun (o : Obj) => HKS.out _ _ _ (F0.out.call ((Below.refl _ _).alloc (Nat.le_refl _) o))); have R2 := Lib.hid (fun (o o' : Obj) => HKS.out _ _ _ (F0.out.call (((Below.refl _ _).alloc (Nat.le_refl _) o).alloc (by simp) o'))))
        | ((with_reducible refine (HF.out _ G1.out.below).mono ?_); rintro e w5 ⟨a5, b5, c5, d5, a6, b6, c6, d6, rfl, o1, o2, o3, o4, hb⟩; have F0 := Lib.hid (G1.out.call hb); have R0 := Lib.hid (HKS.out _ _ _ F0.out); have OO := Lib.hid (And.intro (And.intro o1 o2) (And.intro o3 o4)); clear o1 o2 o3 o4 hb; have R1 := Lib.hid (fun (o : Obj) => HKS.out _ _ _ (F0.out.call ((Below.refl _ _).alloc (Nat.le_refl _) o))); have e10 := F0.out.cell (k := 1) (i := 0) rfl rfl; have f10 := F0.out.frozen (k := 1) rfl 0; have e20 := (fun (o : Obj) => (F0.out.call ((Below.refl _ _).alloc (Nat.le_refl _) o)).cell (k := 1) (i := 0) rfl rfl); have f20 := (fun (o : Obj) => (F0.out.call ((Below.refl _ _).alloc (Nat.le_refl _) o)).frozen (k := 1) rfl 0); have e11 := F0.out.cell (k := 1) (i := 1) rfl rfl; have f11 := F0.out.frozen (k := 1) rfl 1; have e21 := (fun (o : Obj) => (F0.out.call ((Below.refl _ _).alloc (Nat.le_refl _) o)).cell (k := 1) (i := 1) rfl rfl); have f21 := (fun (o : Obj) => (F0.out.call ((Below.refl _ _).alloc (Nat.le_refl _) o)).frozen (k := 1) rfl 1); have e12 := F0.out.cell (k := 1) (i := 2) rfl rfl; have f12 := F0.out.frozen (k := 1) rfl 2; have e22 := (fun (o : Obj) => (F0.out.call ((Below.refl _ _).alloc (Nat.le_refl _) o)).cell (k := 1) (i := 2) rfl rfl); have f22 := (fun (o : Obj) => (F0.out.call ((Below.refl _ _).alloc (Nat.le_refl _) o)).frozen (k := 1) rfl 2); have hlt : w1.heap.size < w5.heap.size := (F0.out.obj (k := 1) rfl).2.1; have nd3 : ¬ w1.heap.size = w5.heap.size := Nat.ne_of_lt hlt; have nd4 : ¬ w5.heap.size = w1.heap.size := fun h => nd3 h.symm; clear hlt; have T3 := Lib.hid (fun (o : Obj) (u0 u1 u2 v0 v1 v2 : Value) => HKS.out _ _ _ (((((((F0.out.alloc #[.slice none 0 0, .slice none 0 0, .int .i64 0] 24 (b := w5.heap.size) rfl rfl).set (k := 1) rfl 0 u0).set (k := 1) rfl 1 u1).set (k := 1) rfl 2 u2).set (k := 2) rfl 0 v0).set (k := 2) rfl 1 v1).set (k := 2) rfl 2 v2)); have T1 := Lib.hid (fun (o : Obj) (u0 u1 u2 : Value) => HKS.out _ _ _ ((((F0.out.call ((Below.refl _ _).alloc (Nat.le_refl _) o)).set (k := 1) rfl 0 u0).set (k := 1) rfl 1 u1).set (k := 1) rfl 2 u2)); have T2 := Lib.hid (fun (u0 u1 u2 : Value) => HKS.out _ _ _ (((F0.out.set (k := 1) rfl 0 u0).set (k := 1) rfl 1 u1).set (k := 1) rfl 2 u2)))
        | ((with_reducible refine (HF.out _ G2.out.below).mono ?_); rintro e w5 ⟨a5, b5, c5, d5, a6, b6, c6, d6, rfl, o1, o2, o3, o4, hb⟩; have F0 := Lib.hid (G2.out.call hb); have R0 := Lib.hid (HKS.out _ _ _ F0.out); have OO := Lib.hid (And.intro (And.intro o1 o2) (And.intro o3 o4)); clear o1 o2 o3 o4 hb; have e10 := F0.out.cell (k := 1) (i := 0) rfl rfl; have f10 := F0.out.frozen (k := 1) rfl 0; have e11 := F0.out.cell (k := 1) (i := 1) rfl rfl; have f11 := F0.out.frozen (k := 1) rfl 1; have e12 := F0.out.cell (k := 1) (i := 2) rfl rfl; have f12 := F0.out.frozen (k := 1) rfl 2; have e20 := F0.out.cell (k := 2) (i := 0) rfl rfl; have f20 := F0.out.frozen (k := 2) rfl 0; have e21 := F0.out.cell (k := 2) (i := 1) rfl rfl; have f21 := F0.out.frozen (k := 2) rfl 1; have e22 := F0.out.cell (k := 2) (i := 2) rfl rfl; have f22 := F0.out.frozen (k := 2) rfl 2; have T1 := Lib.hid (fun (u0 u1 u2 : Value) => HKS.out _ _ _ (((F0.out.set (k := 1) rfl 0 u0).set (k := 1) rfl 1 u1).set (k := 1) rfl 2 u2)); have U1 := Lib.hid (fun (u0 u1 u2 v0 v1 v2 : Value) => HKS.out _ _ _ ((((((F0.out.set (k := 1) rfl 0 u0).set (k := 1) rfl 1 u1).set (k := 1) rfl 2 u2).set (k := 2) rfl 0 v0).set (k := 2) rfl 1 v1).set (k := 2) rfl 2 v2)); have T2 := Lib.hid (fun (u0 u1 u2 : Value) => HKS.out _ _ _ (((F0.out.set (k := 2) rfl 0 u0).set (k := 2) rfl 1 u1).set (k := 2) rfl 2 u2)); have U2 := Lib.hid (fun (u0 u1 u2 v0 v1 v2 : Value) => HKS.out _ _ _ ((((((F0.out.set (k := 2) rfl 0 u0).set (k := 2) rfl 1 u1).set (k := 2) rfl 2 u2).set (k := 1) rfl 0 v0).set (k := 1) rfl 1 v1).set (k := 1) rfl 2 v2)); have nd3 : ¬ w1.heap.size = w1.heap.size + 1 := Nat.ne_of_lt (Nat.lt_succ_self _); have nd4 : ¬ w1.heap.size + 1 = w1.heap.size := fun h => nd3 h.symm))
    · have H := Lib.hid ((F0.out.alloc #[.slice a5 SA.length c5, .slice b5 MA.length d5, .int .i64 0] 24 (b := w5.heap.size) rfl rfl).alloc #[.slice a6 SB.length c6, .slice b6 MB.length d6, .int .i64 0] 24 (b := w5.heap.size + 1) (by simp) rfl)
      clear Q0 Q1 Q2 q0
      go_wp2_with fail
      go_meet
      exact ⟨_, _, a5, b5, a6, b6, c5, d5, c6, d6, rfl, rfl, H.out.row (k := 0) rfl, H.out.row (k := 1) rfl, H.out.row (k := 2) rfl, TI.own ((OO.out.1.1.alloc (.cells #[.slice a5 SA.length c5, .slice b5 MA.length d5, .int .i64 0] 24)).alloc (.cells #[.slice a6 SB.length c6, .slice b6 MB.length d6, .int .i64 0] 24)), TI.own ((OO.out.1.2.alloc (.cells #[.slice a5 SA.length c5, .slice b5 MA.length d5, .int .i64 0] 24)).alloc (.cells #[.slice a6 SB.length c6, .slice b6 MB.length d6, .int .i64 0] 24)), TI.own ((OO.out.2.1.alloc (.cells #[.slice a5 SA.length c5, .slice b5 MA.length d5, .int .i64 0] 24)).alloc (.cells #[.slice a6 SB.length c6, .slice b6 MB.length d6, .int .i64 0] 24)), TI.own ((OO.out.2.2.alloc (.cells #[.slice a5 SA.length c5, .slice b5 MA.length d5, .int .i64 0] 24)).alloc (.cells #[.slice a6 SB.length c6, .slice b6 MB.length d6, .int .i64 0] 24)), H.out.below⟩
    · have H := Lib.hid ((F0.out.alloc #[.slice a6 SB.length c6, .slice b6 MB.length d6, .int .i64 0] 24 (b := w5.heap.size) rfl rfl).alloc #[.slice a5 SA.length c5, .slice b5 MA.length d5, .int .i64 0] 24 (b := w5.heap.size + 1) (by simp) rfl)
      clear Q0 Q1 Q2 q0
      go_wp2_with fail
      go_meet
      exact ⟨_, _, a5, b5, a6, b6, c5, d5, c6, d6, rfl, rfl, H.out.row (k := 0) rfl, H.out.row (k := 2) rfl, H.out.row (k := 1) rfl, TI.own ((OO.out.1.1.alloc (.cells #[.slice a6 SB.length c6, .slice b6 MB.length d6, .int .i64 0] 24)).alloc (.cells #[.slice a5 SA.length c5, .slice b5 MA.length d5, .int .i64 0] 24)), TI.own ((OO.out.1.2.alloc (.cells #[.slice a6 SB.length c6, .slice b6 MB.length d6, .int .i64 0] 24)).alloc (.cells #[.slice a5 SA.length c5, .slice b5 MA.length d5, .int .i64 0] 24)), TI.own ((OO.out.2.1.alloc (.cells #[.slice a6 SB.length c6, .slice b6 MB.length d6, .int .i64 0] 24)).alloc (.cells #[.slice a5 SA.length c5, .slice b5 MA.length d5, .int .i64 0] 24)), TI.own ((OO.out.2.2.alloc (.cells #[.slice a6 SB.length c6, .slice b6 MB.length d6, .int .i64 0] 24)).alloc (.cells #[.slice a5 SA.length c5, .slice b5 MA.length d5, .int .i64 0] 24)), H.out.below⟩
    · have H := Lib.hid (((((((F0.out.alloc #[.slice none 0 0, .slice none 0 0, .int .i64 0] 24 (b := w5.heap.size) rfl rfl).set (k := 1) rfl 0 (.slice a5 SA.length c5)).set (k := 1) rfl 1 (.slice b5 MA.length d5)).set (k := 1) rfl 2 (.int .i64 0)).set (k := 2) rfl 0 (.slice a6 SB.length c6)).set (k := 2) rfl 1 (.slice b6 MB.length d6)).set (k := 2) rfl 2 (.int .i64 0))
      clear Q0 Q1 Q2 q0
      go_wp2_with fail
      go_meet
      exact ⟨_, _, a5, b5, a6, b6, c5, d5, c6, d6, rfl, rfl, H.out.row (k := 0) rfl, H.out.row (k := 1) rfl, H.out.row (k := 2) rfl, TI.own (((OO.out.1.1.alloc (.cells #[.slice none 0 0, .slice none 0 0, .int .i64 0] 24)).box3 ((F0.out.alloc #[.slice none 0 0, .slice none 0 0, .int .i64 0] 24 (b := w5.heap.size) rfl rfl).row (k := 1) rfl) (.slice a5 SA.length c5) (.slice b5 MA.length d5) (.int .i64 0)).box3 (((((F0.out.alloc #[.slice none 0 0, .slice none 0 0, .int .i64 0] 24 (b := w5.heap.size) rfl rfl).set (k := 1) rfl 0 (.slice a5 SA.length c5)).set (k := 1) rfl 1 (.slice b5 MA.length d5)).set (k := 1) rfl 2 (.int .i64 0)).row (k := 2) rfl) (.slice a6 SB.length c6) (.slice b6 MB.length d6) (.int .i64 0)), TI.own (((OO.out.1.2.alloc (.cells #[.slice none 0 0, .slice none 0 0, .int .i64 0] 24)).box3 ((F0.out.alloc #[.slice none 0 0, .slice none 0 0, .int .i64 0] 24 (b := w5.heap.size) rfl rfl).row (k := 1) rfl) (.slice a5 SA.length c5) (.slice b5 MA.length d5) (.int .i64 0)).box3 (((((F0.out.alloc #[.slice none 0 0, .slice none 0 0, .int .i64 0] 24 (b := w5.heap.size) rfl rfl).set (k := 1) rfl 0 (.slice a5 SA.length c5)).set (k := 1) rfl 1 (.slice b5 MA.length d5)).set (k := 1) rfl 2 (.int .i64 0)).row (k := 2) rfl) (.slice a6 SB.length c6) (.slice b6 MB.length d6) (.int .i64 0)), TI.own (((OO.out.2.1.alloc (.cells #[.slice none 0 0, .slice none 0 0, .int .i64 0] 24)).box3 ((F0.out.alloc #[.slice none 0 0, .slice none 0 0, .int .i64 0] 24 (b := w5.heap.size) rfl rfl).row (k := 1) rfl) (.slice a5 SA.length c5) (.slice b5 MA.length d5) (.int .i64 0)).box3 (((((F0.out.alloc #[.slice none 0 0, .slice none 0 0, .int .i64 0] 24 (b := w5.heap.size) rfl rfl).set (k := 1) rfl 0 (.slice a5 SA.length c5)).set (k := 1) rfl 1 (.slice b5 MA.length d5)).set (k := 1) rfl 2 (.int .i64 0)).row (k := 2) rfl) (.slice a6 SB.length c6) (.slice b6 MB.length d6) (.int .i64 0)), TI.own (((OO.out.2.2.alloc (.cells #[.slice none 0 0, .slice none 0 0, .int .i64 0] 24)).box3 ((F0.out.alloc #[.slice none 0 0, .slice none 0 0, .int .i64 0] 24 (b := w5.heap.size) rfl rfl).row (k := 1) rfl) (.slice a5 SA.length c5) (.slice b5 MA.length d5) (.int .i64 0)).box3 (((((F0.out.alloc #[.slice none 0 0, .slice none 0 0, .int .i64 0] 24 (b := w5.heap.size) rfl rfl).set (k := 1) rfl 0 (.slice a5 SA.length c5)).set (k := 1) rfl 1 (.slice b5 MA.length d5)).set (k := 1) rfl 2 (.int .i64 0)).row (k := 2) rfl) (.slice a6 SB.length c6) (.slice b6 MB.length d6) (.int .i64 0)), H.out.below⟩
    · have H := Lib.hid ((((((F0.out.set (k := 1) rfl 0 (.slice a5 SA.length c5)).set (k := 1) rfl 1 (.slice b5 MA.length d5)).set (k := 1) rfl 2 (.int .i64 0)).set (k := 2) rfl 0 (.slice a6 SB.length c6)).set (k := 2) rfl 1 (.slice b6 MB.length d6)).set (k := 2) rfl 2 (.int .i64 0))
      clear Q0 Q1 Q2 q0
      go_wp2_with fail
      go_meet
      exact ⟨_, _, a5, b5, a6, b6, c5, d5, c6, d6, rfl, rfl, H.out.row (k := 0) rfl, H.out.row (k := 1) rfl, H.out.row (k := 2) rfl, TI.own ((OO.out.1.1.box3 (F0.out.row (k := 1) rfl) (.slice a5 SA.length c5) (.slice b5 MA.length d5) (.int .i64 0)).box3 ((((F0.out.set (k := 1) rfl 0 (.slice a5 SA.length c5)).set (k := 1) rfl 1 (.slice b5 MA.length d5)).set (k := 1) rfl 2 (.int .i64 0)).row (k := 2) rfl) (.slice a6 SB.length c6) (.slice b6 MB.length d6) (.int .i64 0)), TI.own ((OO.out.1.2.box3 (F0.out.row (k := 1) rfl) (.slice a5 SA.length c5) (.slice b5 MA.length d5) (.int .i64 0)).box3 ((((F0.out.set (k := 1) rfl 0 (.slice a5 SA.length c5)).set (k := 1) rfl 1 (.slice b5 MA.length d5)).set (k := 1) rfl 2 (.int .i64 0)).row (k := 2) rfl) (.slice a6 SB.length c6) (.slice b6 MB.length d6) (.int .i64 0)), TI.own ((OO.out.2.1.box3 (F0.out.row (k := 1) rfl) (.slice a5 SA.length c5) (.slice b5 MA.length d5) (.int .i64 0)).box3 ((((F0.out.set (k := 1) rfl 0 (.slice a5 SA.length c5)).set (k := 1) rfl 1 (.slice b5 MA.length d5)).set (k := 1) rfl 2 (.int .i64 0)).row (k := 2) rfl) (.slice a6 SB.length c6) (.slice b6 MB.length d6) (.int .i64 0)), TI.own ((OO.out.2.2.box3 (F0.out.row (k := 1) rfl) (.slice a5 SA.length c5) (.slice b5 MA.length d5) (.int .i64 0)).box3 ((((F0.out.set (k := 1) rfl 0 (.slice a5 SA.length c5)).set (k := 1) rfl 1 (.slice b5 MA.length d5)).set (k := 1) rfl 2 (.int .i64 0)).row (k := 2) rfl) (.slice a6 SB.length c6) (.slice b6 MB.length d6) (.int .i64 0)), H.out.below⟩
    · have H := Lib.hid ((((F0.out.alloc #[.slice a5 SA.length c5, .slice b5 MA.length d5, .int .i64 0] 24 (b := w5.heap.size) rfl rfl).set (k := 1) rfl 0 (.slice a6 SB.length c6)).set (k := 1) rfl 1 (.slice b6 MB.length d6)).set (k := 1) rfl 2 (.int .i64 0))
      clear Q0 Q1 Q2 q0
      go_wp2_with fail
      go_meet
      exact ⟨_, _, a5, b5, a6, b6, c5, d5, c6, d6, rfl, rfl, H.out.row (k := 0) rfl, H.out.row (k := 2) rfl, H.out.row (k := 1) rfl, TI.own ((OO.out.1.1.alloc (.cells #[.slice a5 SA.length c5, .slice b5 MA.length d5, .int .i64 0] 24)).box3 ((F0.out.alloc #[.slice a5 SA.length c5, .slice b5 MA.length d5, .int .i64 0] 24 (b := w5.heap.size) rfl rfl).row (k := 1) rfl) (.slice a6 SB.length c6) (.slice b6 MB.length d6) (.int .i64 0)), TI.own ((OO.out.1.2.alloc (.cells #[.slice a5 SA.length c5, .slice b5 MA.length d5, .int .i64 0] 24)).box3 ((F0.out.alloc #[.slice a5 SA.length c5, .slice b5 MA.length d5, .int .i64 0] 24 (b := w5.heap.size) rfl rfl).row (k := 1) rfl) (.slice a6 SB.length c6) (.slice b6 MB.length d6) (.int .i64 0)), TI.own ((OO.out.2.1.alloc (.cells #[.slice a5 SA.length c5, .slice b5 MA.length d5, .int .i64 0] 24)).box3 ((F0.out.alloc #[.slice a5 SA.length c5, .slice b5 MA.length d5, .int .i64 0] 24 (b := w5.heap.size) rfl rfl).row (k := 1) rfl) (.slice a6 SB.length c6) (.slice b6 MB.length d6) (.int .i64 0)), TI.own ((OO.out.2.2.alloc (.cells #[.slice a5 SA.length c5, .slice b5 MA.length d5, .int .i64 0] 24)).box3 ((F0.out.alloc #[.slice a5 SA.length c5, .slice b5 MA.length d5, .int .i64 0] 24 (b := w5.heap.size) rfl rfl).row (k := 1) rfl) (.slice a6 SB.length c6) (.slice b6 MB.length d6) (.int .i64 0)), H.out.below⟩
    · have H := Lib.hid ((((((F0.out.set (k := 2) rfl 0 (.slice a5 SA.length c5)).set (k := 2) rfl 1 (.slice b5 MA.length d5)).set (k := 2) rfl 2 (.int .i64 0)).set (k := 1) rfl 0 (.slice a6 SB.length c6)).set (k := 1) rfl 1 (.slice b6 MB.length d6)).set (k := 1) rfl 2 (.int .i64 0))
      clear Q0 Q1 Q2 q0
      go_wp2_with fail
      go_meet
      exact ⟨_, _, a5, b5, a6, b6, c5, d5, c6, d6, rfl, rfl, H.out.row (k := 0) rfl, H.out.row (k := 2) rfl, H.out.row (k := 1) rfl, TI.own ((OO.out.1.1.box3 (F0.out.row (k := 2) rfl) (.slice a5 SA.length c5) (.slice b5 MA.length d5) (.int .i64 0)).box3 ((((F0.out.set (k := 2) rfl 0 (.slice a5 SA.length c5)).set (k := 2) rfl 1 (.slice b5 MA.length d5)).set (k := 2) rfl 2 (.int .i64 0)).row (k := 1) rfl) (.slice a6 SB.length c6) (.slice b6 MB.length d6) (.int .i64 0)), TI.own ((OO.out.1.2.box3 (F0.out.row (k := 2) rfl) (.slice a5 SA.length c5) (.slice b5 MA.length d5) (.int .i64 0)).box3 ((((F0.out.set (k := 2) rfl 0 (.slice a5 SA.length c5)).set (k := 2) rfl 1 (.slice b5 MA.length d5)).set (k := 2) rfl 2 (.int .i64 0)).row (k := 1) rfl) (.slice a6 SB.length c6) (.slice b6 MB.length d6) (.int .i64 0)), TI.own ((OO.out.2.1.box3 (F0.out.row (k := 2) rfl) (.slice a5 SA.length c5) (.slice b5 MA.length d5) (.int .i64 0)).box3 ((((F0.out.set (k := 2) rfl 0 (.slice a5 SA.length c5)).set (k := 2) rfl 1 (.slice b5 MA.length d5)).set (k := 2) rfl 2 (.int .i64 0)).row (k := 1) rfl) (.slice a6 SB.length c6) (.slice b6 MB.length d6) (.int .i64 0)), TI.own ((OO.out.2.2.box3 (F0.out.row (k := 2) rfl) (.slice a5 SA.length c5) (.slice b5 MA.length d5) (.int .i64 0)).box3 ((((F0.out.set (k := 2) rfl 0 (.slice a5 SA.length c5)).set (k := 2) rfl 1 (.slice b5 MA.length d5)).set (k := 2) rfl 2 (.int .i64 0)).row (k := 1) rfl) (.slice a6 SB.length c6) (.slice b6 MB.length d6) (.int .i64 0)), H.out.below⟩
  case rest =>
    obtain ⟨r4, r5, a5, b5, a6, b6, c5, d5, c6, d6, rfl, rfl, hbx, h4, h5, t1, t2, t3, t4, hb⟩ := hcut
    have e0 : wc.cell? ⟨w.heap.size, 0, none⟩ = some (.slice aS S.length cS) := (hbx.cell 0).trans rfl
    have e4 : wc.cell? ⟨r4, 0, none⟩ = some (.slice a5 SA.length c5) := (h4.cell 0).trans rfl
    have e5 : wc.cell? ⟨r5, 0, none⟩ = some (.slice a6 SB.length c6) := (h5.cell 0).trans rfl
    have HT := Lib.hid (And.intro (And.intro h4 h5) (And.intro (And.intro t1 t2) (And.intro t3 t4)))
    have Hb := Lib.hid hb
    clear hbx h4 h5 t1 t2 t3 t4 hb HF HKS
    go_upto_region 5 with fail
    clear e0 e4 e5
    have hz : w.heap.size ≤ wc.heap.size := Hb.out.size
    have hz0 : B0 ≤ wc.drew.heap.size := Nat.le_trans hB0 hz
    have bd := (Below.refl wc.heap.size wc).drew
    have T0 : Hid ((Row wc.drew r4 24 [.slice a5 SA.length c5, .slice b5 MA.length d5, .int .i64 0] ∧ Row wc.drew r5 24 [.slice a6 SB.length c6, .slice b6 MB.length d6, .int .i64 0]) ∧ (TI wc.drew B0 a5 SA ∧ TI wc.drew B0 b5 MA) ∧ TI wc.drew B0 a6 SB ∧ TI wc.drew B0 b6 MB) := Lib.hid (And.intro (And.intro (HT.out.1.1.later bd HT.out.1.1.lt) (HT.out.1.2.later bd HT.out.1.2.lt)) (And.intro (And.intro (HT.out.2.1.1.later bd) (HT.out.2.1.2.later bd)) (And.intro (HT.out.2.2.1.later bd) (HT.out.2.2.2.later bd))))
    have Hb0 : Hid (Below w.heap.size w wc.drew) := Lib.hid Hb.out.drew
    clear HT Hb bd
    have Q0 : Hid (wc.drew.cell? ⟨r4, 0, none⟩ = some (.slice a5 SA.length c5) ∧ wc.drew.cell? ⟨r4, 1, none⟩ = some (.slice b5 MA.length d5) ∧ wc.drew.cell? ⟨r4, 2, none⟩ = some (.int .i64 0) ∧ wc.drew.cell? ⟨r5, 0, none⟩ = some (.slice a6 SB.length c6) ∧ wc.drew.cell? ⟨r5, 1, none⟩ = some (.slice b6 MB.length d6) ∧ wc.drew.cell? ⟨r5, 2, none⟩ = some (.int .i64 0)) := Lib.hid ⟨(T0.out.1.1.cell 0).trans rfl, (T0.out.1.1.cell 1).trans rfl, (T0.out.1.1.cell 2).trans rfl, (T0.out.1.2.cell 0).trans rfl, (T0.out.1.2.cell 1).trans rfl, (T0.out.1.2.cell 2).trans rfl⟩
    have q0 := Q0.out
    have hPA : PA.length ≤ 64 := na
    have hPB : PB.length ≤ 64 := nb
    obtain ⟨i0, hi0, hz0', hz1, hz2⟩ := info_parts Try.info24
    have Hzc : Hid ((Value.agg #[.slice none 0 0, .slice none 0 0, .int .i64 0]).cells.size = 3) := Lib.hid rfl
    go_region_held3 (fun W' => W'.cell? ⟨r4, 0, none⟩ = some (.slice a5 SA.length c5) ∧ W'.cell? ⟨r4, 1, none⟩ = some (.slice b5 MA.length d5) ∧ W'.cell? ⟨r4, 2, none⟩ = some (.int .i64 0) ∧ W'.cell? ⟨r5, 0, none⟩ = some (.slice a6 SB.length c6) ∧ W'.cell? ⟨r5, 1, none⟩ = some (.slice b6 MB.length d6) ∧ W'.cell? ⟨r5, 2, none⟩ = some (.int .i64 0))
      (first
        | with_reducible exact Q0.out
        | with_reducible exact Q6.out
        | with_reducible exact Q7.out
        | with_reducible exact Q8.out)
      (first
        | ((with_reducible refine (HPA.out a5 b5 c5 d5 _ B0 hz0 T0.out.2.1.1 T0.out.2.1.2).mono ?_); rintro e w6 ⟨A6, C6, rfl, hd, hb⟩; have D6 := Lib.hid hd; have B6 := Lib.hid hb; have T6 := Lib.hid (And.intro (And.intro (T0.out.1.1.later hb T0.out.1.1.lt) (T0.out.1.2.later hb T0.out.1.2.lt)) (And.intro (T0.out.2.2.1.later hb) (T0.out.2.2.2.later hb))); have Q6 : Hid (w6.cell? ⟨r4, 0, none⟩ = some (.slice a5 SA.length c5) ∧ w6.cell? ⟨r4, 1, none⟩ = some (.slice b5 MA.length d5) ∧ w6.cell? ⟨r4, 2, none⟩ = some (.int .i64 0) ∧ w6.cell? ⟨r5, 0, none⟩ = some (.slice a6 SB.length c6) ∧ w6.cell? ⟨r5, 1, none⟩ = some (.slice b6 MB.length d6) ∧ w6.cell? ⟨r5, 2, none⟩ = some (.int .i64 0)) := Lib.hid ⟨(T6.out.1.1.cell 0).trans rfl, (T6.out.1.1.cell 1).trans rfl, (T6.out.1.1.cell 2).trans rfl, (T6.out.1.2.cell 0).trans rfl, (T6.out.1.2.cell 1).trans rfl, (T6.out.1.2.cell 2).trans rfl⟩; have hz6 : B0 ≤ w6.heap.size := Nat.le_trans hz0 hb.size; clear hd hb)
        | ((with_reducible refine (HPB.out a6 b6 c6 d6 w6 B0 hz6 T6.out.2.1 T6.out.2.2).mono ?_); rintro e w7 ⟨A7, C7, rfl, hd, hb⟩; have B7 := Lib.hid (below_step B6.out hb); have R7 := Lib.hid (And.intro (T6.out.1.1.later hb T6.out.1.1.lt) (T6.out.1.2.later hb T6.out.1.2.lt)); have Q7 : Hid (w7.cell? ⟨r4, 0, none⟩ = some (.slice a5 SA.length c5) ∧ w7.cell? ⟨r4, 1, none⟩ = some (.slice b5 MA.length d5) ∧ w7.cell? ⟨r4, 2, none⟩ = some (.int .i64 0) ∧ w7.cell? ⟨r5, 0, none⟩ = some (.slice a6 SB.length c6) ∧ w7.cell? ⟨r5, 1, none⟩ = some (.slice b6 MB.length d6) ∧ w7.cell? ⟨r5, 2, none⟩ = some (.int .i64 0)) := Lib.hid ⟨(R7.out.1.cell 0).trans rfl, (R7.out.1.cell 1).trans rfl, (R7.out.1.cell 2).trans rfl, (R7.out.2.cell 0).trans rfl, (R7.out.2.cell 1).trans rfl, (R7.out.2.cell 2).trans rfl⟩; obtain ⟨us, g1, g2, g3⟩ := hd; obtain ⟨vs, k1, k2, k3⟩ := D6.out.later hb; have DA := Lib.hid (And.intro (And.intro k1 k2) k3); have DB := Lib.hid (And.intro (And.intro g1 g2) g3); have K1 : Hid (vs.length = PA.length * 3) := Lib.hid k3.1; have K2 : Hid (us.length = PB.length * 3) := Lib.hid g3.1; have K3 := Lib.hid g1.at; have K4 := Lib.hid g3.one'; have K5 := Lib.hid B7.out.size; clear g1 g2 g3 k1 k2 k3 hb)
        | ((with_reducible refine step_append_wide rfl (.tmp 27) (.tmp 29) 27 27 rfl wc.drew.heap.size 24 i0 _ 56 3 Try.underlying27 Try.underlying27 hi0 hz0' hz1 (by decide) hz2 Hzc.out A6 PA.length C6 vs rfl K1.out DA.out.1.2 DA.out.1.1 A7 PB.length C7 us rfl K2.out K3.out K4.out (by omega) (by omega) K5.out ?_); intro A8 C8 w8 hle hO hT hA; have HO := Lib.hid hO; have HT8 := Lib.hid hT; have Hle := Lib.hid hle; have Q8 : Hid (w8.cell? ⟨r4, 0, none⟩ = some (.slice a5 SA.length c5) ∧ w8.cell? ⟨r4, 1, none⟩ = some (.slice b5 MA.length d5) ∧ w8.cell? ⟨r4, 2, none⟩ = some (.int .i64 0) ∧ w8.cell? ⟨r5, 0, none⟩ = some (.slice a6 SB.length c6) ∧ w8.cell? ⟨r5, 1, none⟩ = some (.slice b6 MB.length d6) ∧ w8.cell? ⟨r5, 2, none⟩ = some (.int .i64 0)) := Lib.hid (by
            have n4 : ∀ x, A6 = some x → x.block ≠ r4 := fun x hx e => by have h1 := (DA.out.1.1.lt hx).1; have h2 := T0.out.1.1.lt; omega
            have n5 : ∀ x, A6 = some x → x.block ≠ r5 := fun x hx e => by have h1 := (DA.out.1.1.lt hx).1; have h2 := T0.out.1.2.lt; omega
            have u4 := R7.out.1.turned hT n4
            have u5 := R7.out.2.turned hT n5
            exact ⟨(u4.cell 0).trans rfl, (u4.cell 1).trans rfl, (u4.cell 2).trans rfl, (u5.cell 0).trans rfl, (u5.cell 1).trans rfl, (u5.cell 2).trans rfl⟩); clear hO hT hA hle))
    go_wp2_with fail
    go_ret
    have hz8 : w.heap.size ≤ wc.drew.heap.size := Hb0.out.size
    exact ⟨A8, C8, rfl, ⟨_, HO.out.mono hz8, by rw [List.length_append]; exact Hle.out, ((DA.out.2.append DB.out.2).turned (show (24 : TypeId) ≠ 3 from by decide) hz0 DA.out.1.1 HT8.out)⟩, Hb0.out.trans ((B7.out.trans (HT8.out.below B7.out.size fun x hx => (DA.out.1.1.lt hx).1)).mono hz8)⟩
theorem rone_any : ∀ (n : Nat) (S M : List Int) (L : Int), S.length ≤ n → vldB S M L = true → ROneAt S M L := fun n => by
  induction n with
  | zero =>
    intro S M L hn hv
    cases h : cutsL S M with
    | nil => exact rone_leaf S M L hv h
    | cons p l => have := (fac_cuts0 hv h).2.2.2.1; omega
  | succ n ih =>
    intro S M L hn hv
    cases h : cutsL S M with
    | nil => exact rone_leaf S M L hv h
    | cons p l =>
      obtain ⟨_, va, vb, la, lb⟩ := fac_cuts0 hv h
      exact rone_fork S M L hv p l h (ih _ _ _ (by omega) va) (ih _ _ _ (by omega) vb)
set_option maxRecDepth 100000 in
set_option maxHeartbeats 4000000 in
theorem rfactors_yes (S M : List Int) (L : Int) (aS aM : Option Addr) (cS cM : Nat) (w : World) (B0 : Nat) (hB0 : B0 ≤ w.heap.size) (hv : vldB S M L = true) (hS : IntsAt w aS S) (hM : IntsAt w aM M) :
    Calls Try.prog 34 #[.agg #[.slice aS S.length cS, .slice aM M.length cM, .int .i64 L]] w fun e w' => ∃ A C, e = .returned (.slice A (factorsL S M L).length C) ∧ DLO w' w.heap.size B0 A C (factorsL S M L) ∧ Below w.heap.size w w' := by
  have HSp : Hid (∀ W', Below w.heap.size w W' → Calls Try.prog 18 #[.agg #[.slice aS S.length cS, .slice aM M.length cM, .int .i64 L]] W' fun e w' => ∃ A C, e = .returned (.slice A (splitL S M L).length C) ∧ DLO w' W'.heap.size B0 A C (splitL S M L) ∧ Below W'.heap.size W' w') := Lib.hid fun W' h => (rsplit_any S M L aS aM cS cM W' hv (hS.later h) (hM.later h) B0).mono fun e w' ⟨A, C, he, hd, hb⟩ => ⟨A, C, he, hd (Nat.le_trans hB0 h.size), hb⟩
  have hsv := split_valid hv
  have hsl := split_len hv
  have hpl := primesL_len hsv
  have HPr : Hid (∀ i, i < (splitL S M L).length → ROneAt ((splitL S M L).getD i ([], [], 0)).1 ((splitL S M L).getD i ([], [], 0)).2.1 ((splitL S M L).getD i ([], [], 0)).2.2) := Lib.hid fun i hi => rone_any _ _ _ _ (Nat.le_refl _) (hsv _ (by rw [List.getD_eq_getElem?_getD, List.getElem?_eq_getElem hi]; exact List.getElem_mem _))
  unfold factorsL
  have H0 := Lib.hid ((HH.start w).alloc #[.slice aS S.length cS, .slice aM M.length cM, .int .i64 L] 24 rfl rfl)
  clear hv hS hM hsv
  generalize splitL S M L = T at *
  obtain ⟨i0, hi0, hz0, hz1, hz2⟩ := info_parts Try.info24
  have Hzc : Hid ((Value.agg #[.slice none 0 0, .slice none 0 0, .int .i64 0]).cells.size = 3) := Lib.hid rfl
  have Hpl : Hid (∀ i, i ≤ T.length → (primesL (T.take i)).length ≤ 64 * i) := Lib.hid hpl
  have hpT := hpl T.length (Nat.le_refl _)
  rw [List.take_of_length_le (Nat.le_refl _)] at hpT
  clear hpl
  go_enter Try.func34, Try.ntmps34
  go_wp2_with fail
  refine (HSp.out _ H0.out.below).mono ?_
  rintro e w1 ⟨A1, C1, rfl, ⟨vsT, hoT, _, hcT⟩, hb⟩
  have H1 := Lib.hid ((H0.out.addSl hb hoT).addNil 24)
  have HD := Lib.hid hcT
  clear hcT hoT hb H0 HSp
  go_wp2_with fail
  go_loopg [5, 3] T.length (fun g v s3 wr => ∃ (i : Nat) (A : Option Addr) (C : Nat) (vs : List Value), i ≤ T.length ∧ g = T.length - i ∧ v = .int .i64 i ∧ s3 = .slice A (primesL (T.take i)).length C ∧ (primesL (T.take i)).length ≤ C ∧ CellsOf wr B0 vsT T ∧ CellsOf wr B0 vs (primesL (T.take i)) ∧ HH w wr [(w.heap.size, rowO 24 [.slice aS S.length cS, .slice aM M.length cM, .int .i64 L])] [⟨A1, C1 * 3, 24, vsT⟩, ⟨A, C * 3, 24, vs⟩])
  case atStart => exact ⟨0, none, 0, [], Nat.zero_le _, rfl, rfl, rfl, Nat.le_refl _, HD.out, CellsOf.nil _ _, H1.out⟩
  case round =>
    obtain ⟨i, A, C, vs, hi, rfl, rfl, rfl, hiC, hd, hc, hh⟩ := hrel
    replace HD := Lib.hid hd
    have HCl := Lib.hid hc
    have Hh := Lib.hid hh
    clear hd hc hh H1
    have hli := Hpl.out i hi
    by_cases hil : i < T.length
    · obtain ⟨b1, o1, rfl, _, _, hrow, _⟩ := (Hh.out.sl (k := 0) rfl).open (Nat.lt_of_lt_of_le (show 0 < T.length * 3 by omega) (Nat.le_of_eq HD.out.1.symm))
      have hrow : ∀ j v, vsT[j]? = some v → wr.cell? ⟨b1, o1 + j, none⟩ = some v := hrow
      obtain ⟨a', c', b', e', g1, g2, g3, t1, t2⟩ := HD.out.2 i _ (getD_some (d := ([], [], 0)) hil)
      have q1 := hrow _ _ g1
      have q2 := hrow _ _ g2
      have q3 := hrow _ _ g3
      rw [← Nat.add_assoc] at q2 q3
      have HTi := Lib.hid (primesL_take hil)
      have HPi := Lib.hid (HPr.out i hil)
      have hli1 := Hpl.out (i + 1) (by omega)
      rw [HTi.out, List.length_append] at hli1
      generalize T.getD i ([], [], 0) = Ti at *
      obtain ⟨Si, Mi, Li⟩ := Ti
      dsimp only at *
      have HT := Lib.hid (And.intro t1 t2)
      clear hrow t1 t2 g1 g2 g3
      go_wp2_with fail
      have Ha := Lib.hid Hh.out
      have hB1 : B0 ≤ wr.heap.size := Nat.le_trans hB0 Ha.out.below.size
      have HD1 := Lib.hid HD.out
      have HC1 := Lib.hid HCl.out
      have HT1 := Lib.hid HT.out
      clear q1 q2 q3
      refine (HPi.out a' b' c' e' _ B0 hB1 HT1.out.1 HT1.out.2).mono ?_
      rintro e w5 ⟨A5, C5, rfl, hd5, hb⟩
      have H5 := Lib.hid (Ha.out.call hb)
      have HD5 := Lib.hid (HD1.out.later hb)
      have HC5 := Lib.hid (HC1.out.later hb)
      obtain ⟨us, g1, g2, g3⟩ := hd5
      have K1 : Hid (vs.length = (primesL (T.take i)).length * 3) := Lib.hid HC5.out.1
      have K2 : Hid (us.length = (primeL Si Mi Li).length * 3) := Lib.hid g3.1
      have K3 := Lib.hid g1.at
      have K4 := Lib.hid g3.one'
      have K5 := Lib.hid H5.out.below.size
      have HU := Lib.hid g3
      clear g1 g2 g3 hb Ha HD1 HC1 HT1 HT hB1 Hh HD HCl
      generalize primeL Si Mi Li = Pi at *
      obtain ⟨Ti, hTi⟩ : ∃ Ti, Ti = primesL (T.take i) := ⟨_, rfl⟩
      rw [← hTi] at hiC hli hli1 HC5 K1 HTi ⊢
      have HTe := Lib.hid hTi
      clear hTi
      have hsl' : Ti.length ≤ 64 * 128 := by omega
      have hsm' : Ti.length + Pi.length ≤ 64 * 129 := by omega
      go_wp2_with (with_reducible refine wpList_append_wide rfl (.tmp 14) (.tmp 19) 27 27 rfl w.heap.size 24 i0 _ 56 3 Try.underlying27 Try.underlying27 hi0 hz0 hz1 (by decide) hz2 Hzc.out A Ti.length C vs rfl K1.out hiC (H5.out.sl (k := 1) rfl) A5 Pi.length C5 us rfl K2.out K3.out K4.out (by omega) (by omega) K5.out ?_; intro A7 e7 w7 hle hO7 hT7 hA7; have HO7 := Lib.hid hO7; have HT7 := Lib.hid hT7; have HA7 := Lib.hid hA7; have Hle := Lib.hid hle; clear hO7 hT7 hA7 hle)
      have H7 := Lib.hid (H5.out.grow (k := 1) rfl HO7.out HT7.out HA7.out)
      have HD7 := Lib.hid (HD5.out.turned (show (24 : TypeId) ≠ 3 from by decide) hB0 (H5.out.sl (k := 1) rfl) HT7.out)
      have HC7 := Lib.hid ((HC5.out.append HU.out).turned (show (24 : TypeId) ≠ 3 from by decide) hB0 (H5.out.sl (k := 1) rfl) HT7.out)
      go_roundg (T.length - (i + 1))
      case measure => omega
      case rel =>
        refine ⟨i + 1, A7, e7, _, by omega, rfl, by go_num, by rw [HTi.out, List.length_append], ?_, HD7.out, ?_, H7.out⟩
        · rw [HTi.out, List.length_append]; exact Hle.out
        · rw [HTi.out]; exact HC7.out
    · obtain rfl : i = T.length := by omega
      rw [List.take_of_length_le (Nat.le_refl _)] at *
      go_wp2_with fail
      go_ret
      exact ⟨A, C, rfl, ⟨vs, Hh.out.sl (k := 1) rfl, hiC, HCl.out⟩, Hh.out.below⟩
end Go.Proofs.Ytmjoijfafachhaa
