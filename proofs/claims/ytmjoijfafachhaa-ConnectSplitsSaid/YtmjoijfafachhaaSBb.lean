/- The reference: Split, one, Factors. connect.Union, the other ways of connect.Sum, connect.beside beyond the limits. The ways in which connect's functions and diagram.Graph refuse. law07's great: is a diagram beyond the limits of the statements? -/
import Derived.Deep.RegionHeld3
import Derived.WalkKit
import Derived.WalkSpells
import Derived.WalkLawsBesides
import Derived.Deep.AppendSrc
import Derived.Deep.LoopGhost
import Derived.Deep.QuietTactic
import Derived.Deep.RegionWith
import Derived.Deep.DeepMust
import Derived.Deep.DeepFit
import Derived.BigQuiet
import Derived.Lib.Hide
import Derived.Outline
import Derived.Test.YtmjoijfafachhaaProg
import Derived.Deep.Matrix
import Derived.Deep.DeepCutAuto
import Derived.Deep.RegionLaw
import Derived.Shelf.Small.Bits
import Derived.Shelf.Small.Wraps
import Derived.Shelf.Strconv.Itoa0
import Derived.Shelf.Sort.Plain
import Derived.Shelf.Slices.Turned
import Derived.Shelf.Slices.Equal
import Derived.Ground.Names2Prog
import Derived.Shelf.Slices.Clone
import Derived.Shelf.Slices.CompactI
import Derived.Shelf.Slices.SearchI
import Derived.Shelf.Slices.Cells
import Derived.Shelf.Slices.In.SortNone
import Derived.Shelf.Slices.Empties2
import Derived.Ground.SlgnProg
import Derived.Shelf.SlicesE.Clone
import Derived.Sort.OwnSortedInts
import Derived.Lib.AppendZeros
import Derived.Deep.RegionHeld
import Derived.Test.YtmjoijfafachhaaSAa
import Derived.Test.YtmjoijfafachhaaSAc
import Derived.Test.YtmjoijfafachhaaSAd
import Derived.Test.YtmjoijfafachhaaSAe
import Derived.Test.YtmjoijfafachhaaSAf
import Derived.Test.YtmjoijfafachhaaSAg
import Derived.Test.YtmjoijfafachhaaSAh
import Derived.Test.YtmjoijfafachhaaSAi
import Derived.Test.YtmjoijfafachhaaSAj
import Derived.Test.YtmjoijfafachhaaSAk
import Derived.Test.YtmjoijfafachhaaSAl
import Derived.Test.YtmjoijfafachhaaSAm
import Derived.Test.YtmjoijfafachhaaSAn
import Derived.Test.YtmjoijfafachhaaSAr
import Derived.Test.YtmjoijfafachhaaSAs
import Derived.Test.YtmjoijfafachhaaSAt
import Derived.Test.YtmjoijfafachhaaSAu
import Derived.Test.YtmjoijfafachhaaSAv
import Derived.Test.YtmjoijfafachhaaSAw
import Derived.Test.YtmjoijfafachhaaSAx
import Derived.Test.YtmjoijfafachhaaSAz
import Derived.Test.YtmjoijfafachhaaSBa
namespace Go.Proofs.Ytmjoijfafachhaa
open Go Go.RowKit
set_option maxRecDepth 100000 in
set_option maxHeartbeats 4000000 in
theorem rsplit_any (S M : List Int) (L : Int) (aS aM : Option Addr) (cS cM : Nat) (w : World) (hv : vldB S M L = true) (hS : IntsAt w aS S) (hM : IntsAt w aM M) (B0 : Nat) :
    Calls Try.prog 18 #[.agg #[.slice aS S.length cS, .slice aM M.length cM, .int .i64 L]] w fun e w' => ∃ A C, e = .returned (.slice A (splitL S M L).length C) ∧ (B0 ≤ w.heap.size → DLO w' w.heap.size B0 A C (splitL S M L)) ∧ Below w.heap.size w w' := by
  have hs := vldB_shape hv
  have hm := hs.mates
  have hfw := hs.few
  have hlo := hs.lo
  have hhi := hs.hi
  have HGr : Hid (∀ W', Below w.heap.size w W' → Calls Try.prog 54 #[.slice aM M.length cM] W' fun e w' => ∃ a c, e = .returned (.slice a (grpOf M S.length).length c) ∧ OwnRows w' W'.heap.size a c ((grpOf M S.length).map nats) ∧ Below W'.heap.size W' w') := Lib.hid fun W' h => rgraph_any M S.length aM cM W' hfw hs.len hm (hM.later h)
  have HPt : Hid (∀ i, i < (grpOf M S.length).length → ∀ aG cG W', Below w.heap.size w W' → IntsAt W' aG (nats ((grpOf M S.length).getD i [])) → Calls Try.prog 55 #[.agg #[.slice aS S.length cS, .slice aM M.length cM, .int .i64 L], .slice aG ((grpOf M S.length).getD i []).length cG] W' fun e w' => ∃ a b c d, e = .returned (.agg #[.slice a ((grpOf M S.length).getD i []).length c, .slice b (4 * ((grpOf M S.length).getD i []).length) d, .int .i64 0]) ∧ Own w' W'.heap.size 3 a c (ints (partS S ((grpOf M S.length).getD i []))) ∧ Own w' W'.heap.size 3 b d (ints (partM M ((grpOf M S.length).getD i []))) ∧ Below W'.heap.size W' w') := Lib.hid fun i hi aG cG W' h hg => by
    have hmem : (grpOf M S.length).getD i [] ∈ grpOf M S.length := by
      rw [List.getD_eq_getElem?_getD, List.getElem?_eq_getElem hi]; exact List.getElem_mem hi
    exact rpart_any S M L aS aM aG cS cM cG _ W' hv (grp_whole hm hmem).1 (hS.later h) (hM.later h) hg
  have hgl := grp_len M S.length
  have HGn : Hid (∀ i, i < (grpOf M S.length).length → ((grpOf M S.length).getD i []).length ≤ 1000000) := Lib.hid fun i hi => by
    have hmem : (grpOf M S.length).getD i [] ∈ grpOf M S.length := by
      rw [List.getD_eq_getElem?_getD, List.getElem?_eq_getElem hi]; exact List.getElem_mem hi
    have hw := (grp_whole hm hmem).1
    have := hw.nd.length_le_of_subset (l₂ := List.range S.length) fun c hc => List.mem_range.2 (hw.lt c hc)
    rw [List.length_range] at this; omega
  obtain ⟨lp, rfl⟩ : ∃ lp : Nat, L = (lp : Int) := ⟨L.toNat, by omega⟩
  have HSp : Hid (splitL S M (lp : Int) = (grpOf M S.length).map (fun G => (partS S G, partM M G, 0)) ++ List.replicate lp ([], [], 1)) := Lib.hid (by unfold splitL; rw [Int.toNat_natCast])
  have hlp64 : lp ≤ 64 := by omega
  rw [HSp.out, List.length_append, List.length_map, List.length_replicate]
  obtain ⟨i0, hi0, hz0, hz1, hz2⟩ := info_parts Try.info24
  have Hzc : Hid ((Value.agg #[.slice none 0 0, .slice none 0 0, .int .i64 0]).cells.size = 3) := Lib.hid rfl
  have H0 := Lib.hid ((HH.start w).alloc #[.slice aS S.length cS, .slice aM M.length cM, .int .i64 (lp : Int)] 24 rfl rfl)
  clear hs hm hv hS hM HSp
  generalize grpOf M S.length = gs at *
  generalize hT : gs.map (fun G => ((partS S G, partM M G, (0 : Int)) : Dgm)) = T at *
  have HT := Lib.hid hT
  clear hT
  generalize S.length = n at *
  generalize M.length = N at *
  go_enter Try.func18, Try.ntmps18
  have c2 := H0.out.cell (k := 0) (i := 1) rfl rfl
  go_wp2_with fail
  clear c2
  refine (HGr.out _ H0.out.below).mono ?_
  rintro e w2 ⟨aP, cP, rfl, ho, hb⟩
  have H2 := Lib.hid ((H0.out.call hb).addNil 24)
  have HO := Lib.hid ho
  obtain ⟨q, hqe⟩ : ∃ q, q = (w.alloc (.cells #[.slice aS n cS, .slice aM N cM, .int .i64 (lp : Int)] 24)).heap.size := ⟨_, rfl⟩
  have hq : w.heap.size ≤ q := by rw [hqe]; exact H0.out.below.size
  rw [← hqe] at HO
  clear hqe hb ho H0 HGr
  go_wp2_with fail
  go_loopg [5, 3] gs.length (fun g v s3 wr => ∃ (i : Nat) (A : Option Addr) (C : Nat) (vs : List Value), i ≤ gs.length ∧ g = gs.length - i ∧ v = .int .i64 i ∧ s3 = .slice A i C ∧ i ≤ C ∧ OwnRows wr q aP cP (gs.map nats) ∧ (B0 ≤ w.heap.size → CellsOf wr B0 vs (T.take i)) ∧ vs.length = i * 3 ∧ HH w wr [(w.heap.size, rowO 24 [.slice aS n cS, .slice aM N cM, .int .i64 (lp : Int)])] [⟨A, C * 3, 24, vs⟩])
  case atStart => exact ⟨0, none, 0, [], Nat.zero_le _, rfl, rfl, rfl, Nat.le_refl _, HO.out, fun _ => CellsOf.nil _ _, rfl, H2.out⟩
  case round =>
    obtain ⟨i, A, C, vs, hi, rfl, rfl, rfl, hiC, ho, hc, hvl, hh⟩ := hrel
    replace HO := Lib.hid ho
    have HCl := Lib.hid hc
    have Hh := Lib.hid hh
    have Hvl := Lib.hid hvl
    clear ho hc hh H2 hvl
    by_cases hil : i < gs.length
    · obtain ⟨b1, o1, rfl, _, _, hrow⟩ := HO.out.open (by rw [List.length_map]; omega)
      obtain ⟨a', c', hci, hro⟩ := hrow i (nats (gs.getD i [])) (by rw [List.getElem?_map, getD_some (d := []) hil]; rfl)
      rw [nats_length] at hci
      have c1 := Hh.out.cell (k := 0) (i := 0) rfl rfl
      have c2 := Hh.out.cell (k := 0) (i := 1) rfl rfl
      have c3 := Hh.out.cell (k := 0) (i := 2) rfl rfl
      have hro0 := hro.later (w' := wr.drew) (Below.refl _ _).drew (Nat.le_refl _)
      have D0 := Lib.hid Hh.out.drew
      have HP := Lib.hid (HPt.out i hil a' c' wr.drew D0.out.below hro0.ints)
      have hgn : (gs.getD i []).length ≤ 1000000 := HGn.out i hil
      have hTi : T.take (i + 1) = T.take i ++ [(partS S (gs.getD i []), partM M (gs.getD i []), 0)] := by
        rw [List.take_add_one, ← HT.out, List.getElem?_map, getD_some (d := []) hil]; rfl
      have HTi := Lib.hid hTi
      clear hTi
      generalize gs.getD i [] = Gi at *
      have hne8 : ∀ x, A = some x → x.block ≠ b1 := by
        obtain ⟨us, hown, _⟩ := HO.out
        intro x hx e
        have h1 : Own wr w.heap.size 24 A (C * 3) vs := Hh.out.sl (k := 0) rfl
        obtain ⟨b9, o9, e9, _, _, _, _⟩ | ⟨e9, _⟩ : (∃ b9 o9, A = some ⟨b9, o9, none⟩ ∧ True ∧ True ∧ True ∧ True) ∨ (A = none ∧ True) := by
          cases A with
          | none => exact .inr ⟨rfl, trivial⟩
          | some z => 
            rcases h1 with ⟨g, _⟩ | ⟨b', off', cur, g, _⟩
            · cases g
            · exact .inl ⟨b', off', g, trivial, trivial, trivial, trivial⟩
        · rcases h1 with ⟨g, _⟩ | ⟨b', off', cur, g, _, g2, _⟩
          · rw [e9] at g; cases g
          · rw [g] at hx; cases hx
            exact hown.ne g2 (by decide) _ rfl e.symm
        · rw [e9] at hx; cases hx
      have Hne8 := Lib.hid hne8
      have hcl := World.block_lt_of_cell? _ _ hci
      have Hcl : Hid (b1 < wr.drew.heap.size) := Lib.hid hcl
      have Q0 : Hid (wr.drew.cell? ⟨w.heap.size, 0, none⟩ = some (.slice aS n cS) ∧ wr.drew.cell? ⟨w.heap.size, 1, none⟩ = some (.slice aM N cM) ∧ wr.drew.cell? ⟨w.heap.size, 2, none⟩ = some (.int .i64 (lp : Int)) ∧ wr.drew.cell? ⟨b1, o1 + i, none⟩ = some (.slice a' Gi.length c')) := Lib.hid ⟨D0.out.cell (k := 0) (i := 0) rfl rfl, D0.out.cell (k := 0) (i := 1) rfl rfl, D0.out.cell (k := 0) (i := 2) rfl rfl, hci⟩
      have hq0 := Q0.out
      have HO0 := Lib.hid (HO.out.later (Below.refl _ _).drew (Nat.le_refl _))
      have HCl0 : Hid (B0 ≤ w.heap.size → CellsOf wr.drew B0 vs (T.take i)) := Lib.hid fun h => (HCl.out h).later (Below.refl _ _).drew
      have hgs64 : gs.length ≤ 1000 := by omega
      clear hrow hro hro0 hcl hne8 c1 c2 c3 hci
      go_upto_region 6 with fail
      go_region_held3 (fun W' => W'.cell? ⟨w.heap.size, 0, none⟩ = some (.slice aS n cS) ∧ W'.cell? ⟨w.heap.size, 1, none⟩ = some (.slice aM N cM) ∧ W'.cell? ⟨w.heap.size, 2, none⟩ = some (.int .i64 (lp : Int)) ∧ W'.cell? ⟨b1, o1 + i, none⟩ = some (.slice a' Gi.length c'))
        (first
          | with_reducible exact Q0.out
          | with_reducible exact Q1.out
          | with_reducible exact Q2.out
          | with_reducible exact Q3.out)
        (first
          | ((with_reducible refine (HP.out).mono ?_); rintro e w5 ⟨a5, b5, c5, d5, rfl, ho1, ho2, hb⟩; have H3 := Lib.hid (D0.out.call hb); have Q1 : Hid (w5.cell? ⟨w.heap.size, 0, none⟩ = some (.slice aS n cS) ∧ w5.cell? ⟨w.heap.size, 1, none⟩ = some (.slice aM N cM) ∧ w5.cell? ⟨w.heap.size, 2, none⟩ = some (.int .i64 (lp : Int)) ∧ w5.cell? ⟨b1, o1 + i, none⟩ = some (.slice a' Gi.length c')) := Lib.hid ⟨H3.out.cell (k := 0) (i := 0) rfl rfl, H3.out.cell (k := 0) (i := 1) rfl rfl, H3.out.cell (k := 0) (i := 2) rfl rfl, (hb.cell (p := ⟨b1, o1 + i, none⟩) Hcl.out).trans Q0.out.2.2.2⟩; have HO3 := Lib.hid (HO0.out.later hb (Nat.le_refl _)); have t1 : Hid (TI w5 B0 a5 (partS S Gi)) := Lib.hid (TI.own ho1); have t2 : Hid (TI w5 B0 b5 (partM M Gi)) := Lib.hid (TI.own ho2); have HC3 : Hid (B0 ≤ w.heap.size → CellsOf w5 B0 (vs ++ [.slice a5 Gi.length c5, .slice b5 (4 * Gi.length) d5, .int .i64 0]) (T.take (i + 1))) := Lib.hid (fun h => by
                have h1 := (HCl0.out h).later hb
                have h2 := CellsOf.one (c := c5) (e := d5) (L := 0) t1.out t2.out
                rw [partS_len, partM_len] at h2
                have h3 := h1.append h2
                rw [HTi.out]
                exact h3); have Ha := Lib.hid (H3.out.call ((Below.refl _ _).alloc (Nat.le_refl _) (.cells #[.slice a5 Gi.length c5, .slice b5 (4 * Gi.length) d5, .int .i64 0] 24))); have Q2 : Hid ((w5.alloc (.cells #[.slice a5 Gi.length c5, .slice b5 (4 * Gi.length) d5, .int .i64 0] 24)).cell? ⟨w.heap.size, 0, none⟩ = some (.slice aS n cS) ∧ (w5.alloc (.cells #[.slice a5 Gi.length c5, .slice b5 (4 * Gi.length) d5, .int .i64 0] 24)).cell? ⟨w.heap.size, 1, none⟩ = some (.slice aM N cM) ∧ (w5.alloc (.cells #[.slice a5 Gi.length c5, .slice b5 (4 * Gi.length) d5, .int .i64 0] 24)).cell? ⟨w.heap.size, 2, none⟩ = some (.int .i64 (lp : Int)) ∧ (w5.alloc (.cells #[.slice a5 Gi.length c5, .slice b5 (4 * Gi.length) d5, .int .i64 0] 24)).cell? ⟨b1, o1 + i, none⟩ = some (.slice a' Gi.length c')) := Lib.hid ⟨Ha.out.cell (k := 0) (i := 0) rfl rfl, Ha.out.cell (k := 0) (i := 1) rfl rfl, Ha.out.cell (k := 0) (i := 2) rfl rfl, (cell_keptB (Below.heap_alloc w5 _ b1 (World.block_lt_of_cell? _ _ Q1.out.2.2.2))).trans Q1.out.2.2.2⟩; have Hus : Hid (VAt (w5.alloc (.cells #[.slice a5 Gi.length c5, .slice b5 (4 * Gi.length) d5, .int .i64 0] 24)) (some ⟨w5.heap.size, 0, none⟩) [.slice a5 Gi.length c5, .slice b5 (4 * Gi.length) d5, .int .i64 0]) := Lib.hid (Row.new w5 #[.slice a5 Gi.length c5, .slice b5 (4 * Gi.length) d5, .int .i64 0] 24).at; have Hu1 : Hid (∀ u ∈ ([.slice a5 Gi.length c5, .slice b5 (4 * Gi.length) d5, .int .i64 0] : List Value), u.oneCell' = true) := Lib.hid (by
                intro u hu
                simp only [List.mem_cons, List.not_mem_nil, or_false] at hu
                rcases hu with rfl | rfl | rfl <;> rfl); have Hl1 := Lib.hid Ha.out.below.size; have Hum : Hid (([.slice a5 Gi.length c5, .slice b5 (4 * Gi.length) d5, .int .i64 0] : List Value).length = 1 * 3) := Lib.hid rfl; clear ho1 ho2 hb)
          | ((with_reducible refine step_append_wide rfl (.tmp 16) (.tmp 23) 27 27 rfl w.heap.size 24 i0 _ 56 3 Try.underlying27 Try.underlying27 hi0 hz0 hz1 (by decide) hz2 Hzc.out A i C vs rfl Hvl.out hiC (Ha.out.sl (k := 0) rfl) (some ⟨w5.heap.size, 0, none⟩) 1 1 [.slice a5 Gi.length c5, .slice b5 (4 * Gi.length) d5, .int .i64 0] rfl Hum.out Hus.out Hu1.out (by omega) (by omega) Hl1.out ?_); intro A7 e7 w7 hle hO7 hT7 hA7; have HO7a := Lib.hid hO7; have HT7a := Lib.hid hT7; have HA7a := Lib.hid hA7; have Hle := Lib.hid hle; have H7 := Lib.hid (Ha.out.grow (k := 0) rfl HO7a.out HT7a.out HA7a.out); have Q3 : Hid (w7.cell? ⟨w.heap.size, 0, none⟩ = some (.slice aS n cS) ∧ w7.cell? ⟨w.heap.size, 1, none⟩ = some (.slice aM N cM) ∧ w7.cell? ⟨w.heap.size, 2, none⟩ = some (.int .i64 (lp : Int)) ∧ w7.cell? ⟨b1, o1 + i, none⟩ = some (.slice a' Gi.length c')) := Lib.hid ⟨H7.out.cell (k := 0) (i := 0) rfl rfl, H7.out.cell (k := 0) (i := 1) rfl rfl, H7.out.cell (k := 0) (i := 2) rfl rfl, (cell_keptB (hT7.block b1 (World.block_lt_of_cell? _ _ Q2.out.2.2.2) (fun x hx => Hne8.out x hx))).trans Q2.out.2.2.2⟩; clear hO7 hT7 hA7 hle))
      have HO7 := Lib.hid ((HO3.out.later ((Below.refl _ _).alloc (Nat.le_refl _) _) (Nat.le_refl _)).turned (Ha.out.sl (k := 0) rfl) (show (24 : TypeId) ≠ 3 from by decide) (show (24 : TypeId) ≠ 22 from by decide) HT7a.out)
      have HC7 : Hid (B0 ≤ w.heap.size → CellsOf w7 B0 (vs ++ [.slice a5 Gi.length c5, .slice b5 (4 * Gi.length) d5, .int .i64 0]) (T.take (i + 1))) := Lib.hid (fun h => ((HC3.out h).later ((Below.refl _ _).alloc (Nat.le_refl _) _)).turned (show (24 : TypeId) ≠ 3 from by decide) h (Ha.out.sl (k := 0) rfl) HT7a.out)
      go_wp2_with fail
      go_roundg (gs.length - (i + 1))
      case measure => omega
      case rel =>
        refine ⟨i + 1, A7, e7, _, by omega, rfl, by go_num, rfl, Hle.out, HO7.out, HC7.out, ?_, H7.out⟩
        rw [List.length_append, Hvl.out]; show i * 3 + 3 = (i + 1) * 3; omega
    · obtain rfl : i = gs.length := by omega
      have c3 := Hh.out.cell (k := 0) (i := 2) rfl rfl
      have HC0 : Hid (B0 ≤ w.heap.size → CellsOf wr B0 vs (T ++ List.replicate 0 ([], [], 1))) := Lib.hid (fun h => by
        have g := HCl.out h
        rw [List.take_of_length_le (by rw [← HT.out, List.length_map]; exact Nat.le_refl _)] at g
        simpa using g)
      have HTl : Hid (T.length = gs.length) := Lib.hid (by rw [← HT.out, List.length_map])
      clear HCl HO HPt HT HGn c3
      go_wp2_with fail
      go_loopg [6, 3] lp (fun g v s3 wr => ∃ (k : Nat) (A : Option Addr) (C : Nat) (vs : List Value), k ≤ lp ∧ g = lp - k ∧ v = .int .i64 k ∧ s3 = .slice A (gs.length + k) C ∧ gs.length + k ≤ C ∧ (B0 ≤ w.heap.size → CellsOf wr B0 vs (T ++ List.replicate k ([], [], 1))) ∧ vs.length = (gs.length + k) * 3 ∧ HH w wr [(w.heap.size, rowO 24 [.slice aS n cS, .slice aM N cM, .int .i64 (lp : Int)])] [⟨A, C * 3, 24, vs⟩])
      case atStart => exact ⟨0, A, C, vs, Nat.zero_le _, rfl, rfl, rfl, hiC, HC0.out, Hvl.out, Hh.out⟩
      case round =>
        obtain ⟨k, A, C, vs, hk, rfl, rfl, rfl, hkC, hc, hvl, hh⟩ := hrel
        replace HC0 := Lib.hid hc
        replace Hh := Lib.hid hh
        replace Hvl := Lib.hid hvl
        clear hc hh hvl
        have c3 := Hh.out.cell (k := 0) (i := 2) rfl rfl
        by_cases hkl : k < lp
        · have Ha := Lib.hid (Hh.out.call ((Below.refl _ _).alloc (Nat.le_refl _) (.cells #[.slice none 0 0, .slice none 0 0, .int .i64 1] 24)))
          have Hus : Hid (VAt (wr.alloc (.cells #[.slice none 0 0, .slice none 0 0, .int .i64 1] 24)) (some ⟨wr.heap.size, 0, none⟩) [.slice none 0 0, .slice none 0 0, .int .i64 1]) := Lib.hid (Row.new wr #[.slice none 0 0, .slice none 0 0, .int .i64 1] 24).at
          have Hu1 : Hid (∀ u ∈ ([.slice none 0 0, .slice none 0 0, .int .i64 1] : List Value), u.oneCell' = true) := Lib.hid (by
            intro u hu
            simp only [List.mem_cons, List.not_mem_nil, or_false] at hu
            rcases hu with rfl | rfl | rfl <;> rfl)
          have Hum : Hid (([.slice none 0 0, .slice none 0 0, .int .i64 1] : List Value).length = 1 * 3) := Lib.hid rfl
          have Hl1 := Lib.hid Ha.out.below.size
          have HC3 : Hid (B0 ≤ w.heap.size → CellsOf wr B0 (vs ++ [.slice none 0 0, .slice none 0 0, .int .i64 1]) (T ++ List.replicate (k + 1) ([], [], 1))) := Lib.hid (fun h => by
            rw [List.replicate_succ', ← List.append_assoc]
            exact (HC0.out h).append (CellsOf.one (S := []) (M := []) (TI.nil _ _) (TI.nil _ _)))
          go_wp2_with (with_reducible refine wpList_append_wide rfl (.tmp 31) (.tmp 33) 27 27 rfl w.heap.size 24 i0 _ 56 3 Try.underlying27 Try.underlying27 hi0 hz0 hz1 (by decide) hz2 Hzc.out A (gs.length + k) C vs rfl Hvl.out hkC (Ha.out.sl (k := 0) rfl) (some ⟨wr.heap.size, 0, none⟩) 1 1 [.slice none 0 0, .slice none 0 0, .int .i64 1] rfl Hum.out Hus.out Hu1.out (by omega) (by omega) Hl1.out ?_; intro A7 e7 w7 hle hO7 hT7 hA7; have HO7a := Lib.hid hO7; have HT7a := Lib.hid hT7; have HA7a := Lib.hid hA7; clear hO7 hT7 hA7)
          have H7 := Lib.hid (Ha.out.grow (k := 0) rfl HO7a.out HT7a.out HA7a.out)
          have HC7 : Hid (B0 ≤ w.heap.size → CellsOf w7 B0 (vs ++ [.slice none 0 0, .slice none 0 0, .int .i64 1]) (T ++ List.replicate (k + 1) ([], [], 1))) := Lib.hid (fun h => ((HC3.out h).later ((Below.refl _ _).alloc (Nat.le_refl _) _)).turned (show (24 : TypeId) ≠ 3 from by decide) h (Ha.out.sl (k := 0) rfl) HT7a.out)
          go_roundg (lp - (k + 1))
          case measure => omega
          case rel =>
            refine ⟨k + 1, A7, e7, _, by omega, rfl, by go_num, rfl, hle, HC7.out, ?_, H7.out⟩
            rw [List.length_append, Hvl.out]; show (gs.length + k) * 3 + 3 = (gs.length + (k + 1)) * 3; omega
        · obtain rfl : k = lp := by omega
          go_wp2_with fail
          go_ret
          refine ⟨A, C, rfl, fun h => ⟨vs, Hh.out.sl (k := 0) rfl, ?_, HC0.out h⟩, Hh.out.below⟩
          rw [List.length_append, List.length_replicate, HTl.out]; exact hkC
end Go.Proofs.Ytmjoijfafachhaa

namespace Go.Proofs.Ytmjoijfafachhaa
open Go Go.RowKit
set_option maxRecDepth 100000 in
set_option maxHeartbeats 1000000 in
theorem union_yes (Sa Ma : List Int) (La : Int) (aSa aMa : Option Addr) (cSa cMa : Nat) (Sb Mb : List Int) (Lb : Int) (aSb aMb : Option Addr) (cSb cMb : Nat) (w : World) (hva : vldB Sa Ma La = true) (hvb : vldB Sb Mb Lb = true) (hn : Sa.length + Sb.length ≤ 64) (hL : La + Lb ≤ 64) (hSa : IntsAt w aSa Sa) (hMa : IntsAt w aMa Ma) (hSb : IntsAt w aSb Sb) (hMb : IntsAt w aMb Mb) :
    Calls Try.prog 16 #[.agg #[.slice aSa Sa.length cSa, .slice aMa Ma.length cMa, .int .i64 La], .agg #[.slice aSb Sb.length cSb, .slice aMb Mb.length cMb, .int .i64 Lb]] w fun e w' => ∃ a b c d, e = .returned (.tuple #[.agg #[.slice a (Sa.length + Sb.length) c, .slice b (Ma.length + Mb.length) d, .int .i64 (La + Lb)], .int .i64 0]) ∧ Own w' w.heap.size 3 a c (ints (Sa ++ Sb)) ∧ Own w' w.heap.size 3 b d (ints (uniM Ma Mb)) ∧ Below w.heap.size w w' := by
  have hsa := vldB_shape hva
  have hsb := vldB_shape hvb
  have hla := hsa.lo
  have hlb := hsb.lo
  have hma := hsa.len
  have hmb := hsb.len
  have hlah := hsa.hi
  have hlbh := hsb.hi
  have hfa := hsa.few
  have hfb := hsb.few
  have HVa : Hid (∀ W', Below w.heap.size w W' → Calls Try.prog 26 #[.agg #[.slice aSa Sa.length cSa, .slice aMa Ma.length cMa, .int .i64 La]] W' fun e w' => e = .returned (.bool true) ∧ Below W'.heap.size W' w') := Lib.hid fun W' h => by
    have g := valid_any Sa Ma La aSa aMa cSa cMa W' (by omega) (by omega) (hSa.later h) (hMa.later h)
    rw [hva] at g; exact g
  have HVb : Hid (∀ W', Below w.heap.size w W' → Calls Try.prog 26 #[.agg #[.slice aSb Sb.length cSb, .slice aMb Mb.length cMb, .int .i64 Lb]] W' fun e w' => e = .returned (.bool true) ∧ Below W'.heap.size W' w') := Lib.hid fun W' h => by
    have g := valid_any Sb Mb Lb aSb aMb cSb cMb W' (by omega) (by omega) (hSb.later h) (hMb.later h)
    rw [hvb] at g; exact g
  have HB : Hid (∀ W', Below w.heap.size w W' → Calls Try.prog 52 #[.agg #[.slice aSa Sa.length cSa, .slice aMa Ma.length cMa, .int .i64 La], .agg #[.slice aSb Sb.length cSb, .slice aMb Mb.length cMb, .int .i64 Lb], .int .i64 (La + Lb)] W' fun e w' => ∃ a b c d, e = .returned (.tuple #[.agg #[.slice a (Sa.length + Sb.length) c, .slice b (Ma.length + Mb.length) d, .int .i64 (La + Lb)], .int .i64 0]) ∧ Own w' W'.heap.size 3 a c (ints (Sa ++ Sb)) ∧ Own w' W'.heap.size 3 b d (ints (uniM Ma Mb)) ∧ Below W'.heap.size W' w') := Lib.hid fun W' h =>
    (beside_yes Sa Ma Sb Mb La Lb (La + Lb) aSa aMa aSb aMb cSa cMa cSb cMb W' hn (by omega) (by omega) (by omega) (fun k hk => by have := hsb.range k (by omega); omega) (hSa.later h) (hMa.later h) (hSb.later h) (hMb.later h)).mono fun e w' ⟨a, b, c, d, h1, h2, h3, _, h5⟩ => ⟨a, b, c, d, h1, h2, h3, h5⟩
  have hwL : wrap64 (La + Lb) = La + Lb := wrap_mid (by omega) (by omega)
  have H0 := Lib.hid ((((HH.start w).alloc #[.slice aSa Sa.length cSa, .slice aMa Ma.length cMa, .int .i64 La] 24 rfl rfl).alloc #[.slice aSb Sb.length cSb, .slice aMb Mb.length cMb, .int .i64 Lb] 24 (b := w.heap.size + 1) (by simp) rfl).alloc #[.slice none 0 0, .slice none 0 0, .int .i64 0] 24 (b := w.heap.size + 2) (by simp) rfl)
  clear hsa hsb hva hvb hSa hMa hSb hMb hma hmb hfa hfb
  generalize uniM Ma Mb = V at *
  generalize Sa ++ Sb = T at *
  generalize Sa.length = na at *
  generalize Sb.length = nb at *
  generalize Ma.length = ma at *
  generalize Mb.length = mb at *
  go_enter Try.func16, Try.ntmps16
  go_wp2_with fail
  refine (HVa.out _ H0.out.below).mono ?_
  rintro e w1 ⟨rfl, hb⟩
  have H1 := Lib.hid (H0.out.call hb)
  clear hb H0 HVa
  have k00 := H1.out.cell (k := 0) (i := 0) rfl rfl
  have k01 := H1.out.cell (k := 0) (i := 1) rfl rfl
  have k02 := H1.out.cell (k := 0) (i := 2) rfl rfl
  have k10 := H1.out.cell (k := 1) (i := 0) rfl rfl
  have k11 := H1.out.cell (k := 1) (i := 1) rfl rfl
  have k12 := H1.out.cell (k := 1) (i := 2) rfl rfl
  have k20 := H1.out.cell (k := 2) (i := 0) rfl rfl
  have k21 := H1.out.cell (k := 2) (i := 1) rfl rfl
  have k22 := H1.out.cell (k := 2) (i := 2) rfl rfl
  go_wp2_with fail
  clear k00 k01 k02 k10 k11 k12 k20 k21 k22
  refine (HVb.out _ H1.out.below).mono ?_
  rintro e w2 ⟨rfl, hb⟩
  have H2 := Lib.hid (H1.out.call hb)
  clear hb H1 HVb
  have k00 := H2.out.cell (k := 0) (i := 0) rfl rfl
  have k01 := H2.out.cell (k := 0) (i := 1) rfl rfl
  have k02 := H2.out.cell (k := 0) (i := 2) rfl rfl
  have k10 := H2.out.cell (k := 1) (i := 0) rfl rfl
  have k11 := H2.out.cell (k := 1) (i := 1) rfl rfl
  have k12 := H2.out.cell (k := 1) (i := 2) rfl rfl
  have k20 := H2.out.cell (k := 2) (i := 0) rfl rfl
  have k21 := H2.out.cell (k := 2) (i := 1) rfl rfl
  have k22 := H2.out.cell (k := 2) (i := 2) rfl rfl
  go_wp2_with fail
  clear k00 k01 k02 k10 k11 k12 k20 k21 k22
  refine (HB.out _ H2.out.below).mono ?_
  rintro e w3 ⟨a5, b5, c5, d5, rfl, ho1, ho2, hb⟩
  have H3 := Lib.hid (H2.out.call hb)
  have HO1 := Lib.hid (ho1.mono H2.out.below.size)
  have HO2 := Lib.hid (ho2.mono H2.out.below.size)
  clear ho1 ho2
  clear hb H2 
  have k00 := H3.out.cell (k := 0) (i := 0) rfl rfl
  have k01 := H3.out.cell (k := 0) (i := 1) rfl rfl
  have k02 := H3.out.cell (k := 0) (i := 2) rfl rfl
  have k10 := H3.out.cell (k := 1) (i := 0) rfl rfl
  have k11 := H3.out.cell (k := 1) (i := 1) rfl rfl
  have k12 := H3.out.cell (k := 1) (i := 2) rfl rfl
  have k20 := H3.out.cell (k := 2) (i := 0) rfl rfl
  have k21 := H3.out.cell (k := 2) (i := 1) rfl rfl
  have k22 := H3.out.cell (k := 2) (i := 2) rfl rfl
  have f20 := H3.out.frozen (k := 2) rfl 0
  have f21 := H3.out.frozen (k := 2) rfl 1
  have f22 := H3.out.frozen (k := 2) rfl 2
  have H9 := (((H3.out.set (k := 2) rfl 0 (.slice a5 (na + nb) c5)).set (k := 2) rfl 1 (.slice b5 (ma + mb) d5)).set (k := 2) rfl 2 (.int .i64 (La + Lb)))
  have hF20 := H9.cell (k := 2) (i := 0) rfl rfl
  have hF21 := H9.cell (k := 2) (i := 1) rfl rfl
  have hF22 := H9.cell (k := 2) (i := 2) rfl rfl
  have Hfin := Lib.hid H9
  clear H9
  go_wp2_with fail
  refine bodyPost_ret (v := .tuple #[.agg #[.slice a5 (na + nb) c5, .slice b5 (ma + mb) d5, .int .i64 (La + Lb)], .int .i64 0]) (by simp [results, Try.results16, go_sem, hF20, hF21, hF22]) rfl ?_
  have q1 := ((HO1.out.setOther (H3.out.row (k := 2) rfl) (by decide) 0 (.slice a5 (na + nb) c5)).setOther ((H3.out.set (k := 2) rfl 0 (.slice a5 (na + nb) c5)).row (k := 2) rfl) (by decide) 1 (.slice b5 (ma + mb) d5)).setOther (((H3.out.set (k := 2) rfl 0 (.slice a5 (na + nb) c5)).set (k := 2) rfl 1 (.slice b5 (ma + mb) d5)).row (k := 2) rfl) (by decide) 2 (.int .i64 (La + Lb))
  have q2 := ((HO2.out.setOther (H3.out.row (k := 2) rfl) (by decide) 0 (.slice a5 (na + nb) c5)).setOther ((H3.out.set (k := 2) rfl 0 (.slice a5 (na + nb) c5)).row (k := 2) rfl) (by decide) 1 (.slice b5 (ma + mb) d5)).setOther (((H3.out.set (k := 2) rfl 0 (.slice a5 (na + nb) c5)).set (k := 2) rfl 1 (.slice b5 (ma + mb) d5)).row (k := 2) rfl) (by decide) 2 (.int .i64 (La + Lb))
  exact ⟨_, _, _, _, rfl, q1, q2, Hfin.out.below⟩
end Go.Proofs.Ytmjoijfafachhaa

namespace Go.Proofs.Ytmjoijfafachhaa
open Go Go.RowKit
set_option maxRecDepth 100000 in
set_option maxHeartbeats 1000000 in
theorem split_no (S M : List Int) (L : Int) (aS aM : Option Addr) (cS cM : Nat) (w : World) (hSl : S.length ≤ 1000000000) (hMl : M.length ≤ 1000000000) (hv : vldB S M L = false) (hS : IntsAt w aS S) (hM : IntsAt w aM M) :
    Calls Try.prog 14 #[.agg #[.slice aS S.length cS, .slice aM M.length cM, .int .i64 L]] w fun e w' => e = .returned (.slice none 0 0) ∧ Below w.heap.size w w' := by
  have HV : Hid (∀ W', Below w.heap.size w W' → Calls Try.prog 26 #[.agg #[.slice aS S.length cS, .slice aM M.length cM, .int .i64 L]] W' fun e w' => e = .returned (.bool false) ∧ Below W'.heap.size W' w') := Lib.hid fun W' h => by
    have g := valid_any S M L aS aM cS cM W' (by omega) (by omega) (hS.later h) (hM.later h)
    rw [hv] at g; exact g
  have H0 := Lib.hid ((HH.start w).alloc #[.slice aS S.length cS, .slice aM M.length cM, .int .i64 L] 24 rfl rfl)
  clear hv hS hM hSl hMl
  generalize S.length = n at *
  generalize M.length = N at *
  go_enter Try.func14, Try.ntmps14
  go_wp2_with fail
  refine (HV.out _ H0.out.below).mono ?_
  rintro e w1 ⟨rfl, hb⟩
  have H1 := Lib.hid (H0.out.call hb)
  clear hb H0 
  go_wp2_with fail
  go_ret
  exact ⟨rfl, H1.out.below⟩
end Go.Proofs.Ytmjoijfafachhaa

namespace Go.Proofs.Ytmjoijfafachhaa
open Go Go.RowKit
def greatB (S M : List Int) (L : Int) : Bool := decide (14 < S.length) || (decide (60 < M.length) || (decide (10 < L) && decide (L ≤ 64)))
theorem greatB_no {S M : List Int} {L : Int} (h : greatB S M L = false) : S.length ≤ 14 ∧ M.length ≤ 60 := by
  unfold greatB at h
  simp only [Bool.or_eq_false_iff, decide_eq_false_iff_not] at h
  omega
set_option maxRecDepth 100000 in
set_option maxHeartbeats 2000000 in
theorem great_any (S M : List Int) (L : Int) (aS aM : Option Addr) (cS cM : Nat) (w : World) :
    Calls Try.prog 13 #[.agg #[.slice aS S.length cS, .slice aM M.length cM, .int .i64 L]] w fun e w' => e = .returned (.bool (greatB S M L)) ∧ Below w.heap.size w w' := by
  have H0 := Lib.hid ((HH.start w).alloc #[.slice aS S.length cS, .slice aM M.length cM, .int .i64 L] 24 rfl rfl)
  have HG : Hid (greatB S M L = (decide (14 < S.length) || (decide (60 < M.length) || (decide (10 < L) && decide (L ≤ 64))))) := Lib.hid rfl
  rw [HG.out]
  clear HG
  generalize S.length = n at *
  generalize M.length = m at *
  go_enter Try.func13, Try.ntmps13
  by_cases h1 : 14 < n
  · have d1 : decide ((14 : Int) < (n : Int)) = true := decide_eq_true (by omega)
    have d2 : decide (14 < n) = true := decide_eq_true h1
    rw [d2]
    go_wp2_with fail
    go_ret
    exact ⟨rfl, H0.out.below⟩
  · have d1 : decide ((14 : Int) < (n : Int)) = false := decide_eq_false (by omega)
    have d2 : decide (14 < n) = false := decide_eq_false h1
    rw [d2]
    by_cases h2 : 60 < m
    · have d3 : decide ((60 : Int) < (m : Int)) = true := decide_eq_true (by omega)
      have d4 : decide (60 < m) = true := decide_eq_true h2
      rw [d4]
      go_wp2_with fail
      go_ret
      exact ⟨rfl, H0.out.below⟩
    · have d3 : decide ((60 : Int) < (m : Int)) = false := decide_eq_false (by omega)
      have d4 : decide (60 < m) = false := decide_eq_false h2
      rw [d4]
      by_cases h3 : 10 < L
      · have d5 : decide (10 < L) = true := decide_eq_true h3
        rw [d5]
        go_wp2_with fail
        go_ret
        exact ⟨rfl, H0.out.below⟩
      · have d5 : decide (10 < L) = false := decide_eq_false h3
        rw [d5]
        go_wp2_with fail
        go_ret
        exact ⟨rfl, H0.out.below⟩
end Go.Proofs.Ytmjoijfafachhaa

