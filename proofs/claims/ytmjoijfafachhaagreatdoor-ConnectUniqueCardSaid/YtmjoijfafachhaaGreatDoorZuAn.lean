/- connect.Split: the parts of a diagram. Plain law: what Factor and prime compute: the two parts at a cut, the prime factors. Plain law: how many prime factors there are at most; an append of whole lists in a region that draws its order. -/
import Derived.WalkKit
import Derived.WalkSpells
import Derived.WalkLawsBesides
import Derived.Deep.AppendSrc
import Derived.Deep.LoopGhost
import Derived.Deep.QuietTactic
import Derived.Deep.RegionWith
import Derived.Deep.DeepMust
import Derived.Deep.DeepFit
import Derived.BigQuiet
import Derived.Lib.Hide
import Derived.Outline
import Derived.Test.YtmjoijfafachhaaGreatDoorProg
import Derived.Deep.Matrix
import Derived.Deep.DeepCutAuto
import Derived.Deep.RegionLaw
import Derived.Deep.RegionHeld3
import Derived.Test.YtmjoijfafachhaaGreatDoorZuAa
import Derived.Test.YtmjoijfafachhaaGreatDoorZuAb
import Derived.Test.YtmjoijfafachhaaGreatDoorZuAc
import Derived.Test.YtmjoijfafachhaaGreatDoorZuAd
import Derived.Test.YtmjoijfafachhaaGreatDoorZuAe
import Derived.Test.YtmjoijfafachhaaGreatDoorZuAf
import Derived.Test.YtmjoijfafachhaaGreatDoorZuAg
import Derived.Test.YtmjoijfafachhaaGreatDoorZuAh
import Derived.Test.YtmjoijfafachhaaGreatDoorZuAj
import Derived.Test.YtmjoijfafachhaaGreatDoorZuAk
import Derived.Test.YtmjoijfafachhaaGreatDoorZuAl
import Derived.Test.YtmjoijfafachhaaGreatDoorZuAm
namespace Go.Proofs.YtmjoijfafachhaaGreatDoor
open Go Go.RowKit
/-- The parts as diagrams, and the loops. -/
noncomputable def splitL (S M : List Int) (L : Int) : List Dgm := (grpOf M S.length).map (fun G => (partS S G, partM M G, 0)) ++ List.replicate L.toNat ([], [], 1)
theorem grp_whole {M : List Int} {n : Nat} (hm : MateOk M n) {G : List Nat} (h : G ∈ grpOf M n) : Whole M n G ∧ 0 < G.length := by
  obtain ⟨c, hc, rfl⟩ := List.mem_map.1 h
  refine ⟨whole_cls hm c, ?_⟩
  have hcn := (mem_leadsN.1 hc).1
  exact List.length_pos_of_mem (mem_clsN.2 ⟨hcn, Conn.refl M c⟩)
theorem grp_len (M : List Int) (n : Nat) : (grpOf M n).length ≤ n := by
  unfold grpOf leadsN
  rw [List.length_map]
  have := List.length_filter_le (fun c => okC (∀ d, d < c → ¬ Conn M d c)) (List.range n)
  rwa [List.length_range] at this
set_option maxRecDepth 100000 in
set_option maxHeartbeats 4000000 in
theorem split_any (S M : List Int) (L : Int) (aS aM : Option Addr) (cS cM : Nat) (w : World) (hv : vldB S M L = true) (hS : IntsAt w aS S) (hM : IntsAt w aM M) (B0 : Nat) :
    Calls Tryz.prog 18 #[.agg #[.slice aS S.length cS, .slice aM M.length cM, .int .i64 L]] w fun e w' => ∃ A C, e = .returned (.slice A (splitL S M L).length C) ∧ (B0 ≤ w.heap.size → DLO w' w.heap.size B0 A C (splitL S M L)) ∧ Below w.heap.size w w' := by
  have hs := vldB_shape hv
  have hm := hs.mates
  have hfw := hs.few
  have hlo := hs.lo
  have hhi := hs.hi
  have HV : Hid (∀ W', Below w.heap.size w W' → Calls Tryz.prog 15 #[.agg #[.slice aS S.length cS, .slice aM M.length cM, .int .i64 L]] W' fun e w' => e = .returned (.bool true) ∧ Below W'.heap.size W' w') := Lib.hid fun W' h => by
    have g := valid_any S M L aS aM cS cM W' (by omega) (by rw [hs.len]; omega) (hS.later h) (hM.later h)
    rw [hv] at g; exact g
  have HGr : Hid (∀ W', Below w.heap.size w W' → Calls Tryz.prog 37 #[.agg #[.slice aS S.length cS, .slice aM M.length cM, .int .i64 L]] W' fun e w' => ∃ a c, e = .returned (.slice a (grpOf M S.length).length c) ∧ OwnRows w' W'.heap.size a c ((grpOf M S.length).map nats) ∧ Below W'.heap.size W' w') := Lib.hid fun W' h => graph_any S M L aS aM cS cM W' hv (hS.later h) (hM.later h)
  have HPt : Hid (∀ i, i < (grpOf M S.length).length → ∀ aG cG W', Below w.heap.size w W' → IntsAt W' aG (nats ((grpOf M S.length).getD i [])) → Calls Tryz.prog 38 #[.agg #[.slice aS S.length cS, .slice aM M.length cM, .int .i64 L], .slice aG ((grpOf M S.length).getD i []).length cG] W' fun e w' => ∃ a b c d, e = .returned (.agg #[.slice a ((grpOf M S.length).getD i []).length c, .slice b (4 * ((grpOf M S.length).getD i []).length) d, .int .i64 0]) ∧ Own w' W'.heap.size 3 a c (ints (partS S ((grpOf M S.length).getD i []))) ∧ Own w' W'.heap.size 3 b d (ints (partM M ((grpOf M S.length).getD i []))) ∧ Below W'.heap.size W' w') := Lib.hid fun i hi aG cG W' h hg => by
    have hmem : (grpOf M S.length).getD i [] ∈ grpOf M S.length := by
      rw [List.getD_eq_getElem?_getD, List.getElem?_eq_getElem hi]; exact List.getElem_mem hi
    exact part_any S M L aS aM aG cS cM cG _ W' hv (grp_whole hm hmem).1 (hS.later h) (hM.later h) hg
  have hgl := grp_len M S.length
  have HGn : Hid (∀ i, i < (grpOf M S.length).length → ((grpOf M S.length).getD i []).length ≤ 1000000) := Lib.hid fun i hi => by
    have hmem : (grpOf M S.length).getD i [] ∈ grpOf M S.length := by
      rw [List.getD_eq_getElem?_getD, List.getElem?_eq_getElem hi]; exact List.getElem_mem hi
    have hw := (grp_whole hm hmem).1
    have := hw.nd.length_le_of_subset (l₂ := List.range S.length) fun c hc => List.mem_range.2 (hw.lt c hc)
    rw [List.length_range] at this; omega
  obtain ⟨lp, rfl⟩ : ∃ lp : Nat, L = (lp : Int) := ⟨L.toNat, by omega⟩
  have HSp : Hid (splitL S M (lp : Int) = (grpOf M S.length).map (fun G => (partS S G, partM M G, 0)) ++ List.replicate lp ([], [], 1)) := Lib.hid (by unfold splitL; rw [Int.toNat_natCast])
  have hlp64 : lp ≤ 64 := by omega
  rw [HSp.out, List.length_append, List.length_map, List.length_replicate]
  obtain ⟨i0, hi0, hz0, hz1, hz2⟩ := info_parts Tryz.info24
  have Hzc : Hid ((Value.agg #[.slice none 0 0, .slice none 0 0, .int .i64 0]).cells.size = 3) := Lib.hid rfl
  have H0 := Lib.hid ((HH.start w).alloc #[.slice aS S.length cS, .slice aM M.length cM, .int .i64 (lp : Int)] 24 rfl rfl)
  clear hs hm hv hS hM HSp
  generalize grpOf M S.length = gs at *
  generalize hT : gs.map (fun G => ((partS S G, partM M G, (0 : Int)) : Dgm)) = T at *
  have HT := Lib.hid hT
  clear hT
  generalize S.length = n at *
  generalize M.length = N at *
  go_enter Tryz.func18, Tryz.ntmps18
  go_wp2_with fail
  refine (HV.out _ H0.out.below).mono ?_
  rintro e w1 ⟨rfl, hb⟩
  have H1 := Lib.hid (H0.out.call hb)
  clear hb H0 HV
  have c1 := H1.out.cell (k := 0) (i := 0) rfl rfl
  have c2 := H1.out.cell (k := 0) (i := 1) rfl rfl
  have c3 := H1.out.cell (k := 0) (i := 2) rfl rfl
  go_wp2_with fail
  clear c1 c2 c3
  refine (HGr.out _ H1.out.below).mono ?_
  rintro e w2 ⟨aP, cP, rfl, ho, hb⟩
  have H2 := Lib.hid ((H1.out.call hb).addNil 24)
  have HO := Lib.hid ho
  have hq : w.heap.size ≤ w1.heap.size := H1.out.below.size
  clear hb ho H1 HGr
  generalize w1.heap.size = q at *
  go_wp2_with fail
  go_loopg [12, 3] gs.length (fun g v s3 wr => ∃ (i : Nat) (A : Option Addr) (C : Nat) (vs : List Value), i ≤ gs.length ∧ g = gs.length - i ∧ v = .int .i64 i ∧ s3 = .slice A i C ∧ i ≤ C ∧ OwnRows wr q aP cP (gs.map nats) ∧ (B0 ≤ w.heap.size → CellsOf wr B0 vs (T.take i)) ∧ vs.length = i * 3 ∧ HH w wr [(w.heap.size, rowO 24 [.slice aS n cS, .slice aM N cM, .int .i64 (lp : Int)])] [⟨A, C * 3, 24, vs⟩])
  case atStart => exact ⟨0, none, 0, [], Nat.zero_le _, rfl, rfl, rfl, Nat.le_refl _, HO.out, fun _ => CellsOf.nil _ _, rfl, H2.out⟩
  case round =>
    obtain ⟨i, A, C, vs, hi, rfl, rfl, rfl, hiC, ho, hc, hvl, hh⟩ := hrel
    replace HO := Lib.hid ho
    have HCl := Lib.hid hc
    have Hh := Lib.hid hh
    have Hvl := Lib.hid hvl
    clear ho hc hh H2 hvl
    by_cases hil : i < gs.length
    · obtain ⟨b1, o1, rfl, _, _, hrow⟩ := HO.out.open (by rw [List.length_map]; omega)
      obtain ⟨a', c', hci, hro⟩ := hrow i (nats (gs.getD i [])) (by rw [List.getElem?_map, getD_some (d := []) hil]; rfl)
      rw [nats_length] at hci
      have c1 := Hh.out.cell (k := 0) (i := 0) rfl rfl
      have c2 := Hh.out.cell (k := 0) (i := 1) rfl rfl
      have c3 := Hh.out.cell (k := 0) (i := 2) rfl rfl
      have HP := Lib.hid (HPt.out i hil a' c' wr Hh.out.below hro.ints)
      have hgn : (gs.getD i []).length ≤ 1000000 := HGn.out i hil
      have hTi : T.take (i + 1) = T.take i ++ [(partS S (gs.getD i []), partM M (gs.getD i []), 0)] := by
        rw [List.take_add_one, ← HT.out, List.getElem?_map, getD_some (d := []) hil]; rfl
      have HTi := Lib.hid hTi
      clear hTi
      generalize gs.getD i [] = Gi at *
      clear hrow hro
      go_wp2_with fail
      refine HP.out.mono ?_
      rintro e w5 ⟨a5, b5, c5, d5, rfl, ho1, ho2, hb⟩
      have H3 := Lib.hid (Hh.out.call hb)
      have HO3 := Lib.hid (HO.out.later hb (Nat.le_refl _))
      have t1 : TI w5 B0 a5 (partS S Gi) := TI.own ho1
      have t2 : TI w5 B0 b5 (partM M Gi) := TI.own ho2
      have hC3 : B0 ≤ w.heap.size → CellsOf w5 B0 (vs ++ [.slice a5 Gi.length c5, .slice b5 (4 * Gi.length) d5, .int .i64 0]) (T.take (i + 1)) := fun h => by
        have h1 := (HCl.out h).later hb
        have h2 := CellsOf.one (c := c5) (e := d5) (L := 0) t1 t2
        rw [partS_len, partM_len] at h2
        have h3 := h1.append h2
        rw [HTi.out]
        exact h3
      have HC3 := Lib.hid hC3
      have Ha := Lib.hid (H3.out.call ((Below.refl _ _).alloc (Nat.le_refl _) (.cells #[.slice a5 Gi.length c5, .slice b5 (4 * Gi.length) d5, .int .i64 0] 24)))
      have Hus : Hid (VAt (w5.alloc (.cells #[.slice a5 Gi.length c5, .slice b5 (4 * Gi.length) d5, .int .i64 0] 24)) (some ⟨w5.heap.size, 0, none⟩) [.slice a5 Gi.length c5, .slice b5 (4 * Gi.length) d5, .int .i64 0]) := Lib.hid (Row.new w5 #[.slice a5 Gi.length c5, .slice b5 (4 * Gi.length) d5, .int .i64 0] 24).at
      have Hu1 : Hid (∀ u ∈ ([.slice a5 Gi.length c5, .slice b5 (4 * Gi.length) d5, .int .i64 0] : List Value), u.oneCell' = true) := Lib.hid (by
        intro u hu
        simp only [List.mem_cons, List.not_mem_nil, or_false] at hu
        rcases hu with rfl | rfl | rfl <;> rfl)
      have Hl1 := Lib.hid Ha.out.below.size
      clear hC3 t1 t2 ho1 ho2 hci HP
      generalize Gi.length = gl at *
      have Hum : Hid (([.slice a5 gl c5, .slice b5 (4 * gl) d5, .int .i64 0] : List Value).length = 1 * 3) := Lib.hid rfl
      go_wp2_with (with_reducible refine wpList_append_wide rfl (.tmp 16) (.tmp 20) 33 33 rfl w.heap.size 24 i0 _ 56 3 Tryz.underlying33 Tryz.underlying33 hi0 hz0 hz1 (by decide) hz2 Hzc.out A i C vs rfl Hvl.out hiC (Ha.out.sl (k := 0) rfl) (some ⟨w5.heap.size, 0, none⟩) 1 1 [.slice a5 gl c5, .slice b5 (4 * gl) d5, .int .i64 0] rfl Hum.out Hus.out Hu1.out (by omega) (by omega) Hl1.out ?_; intro A7 e7 w7 hle hO7 hT7 hA7; have HO7a := Lib.hid hO7; have HT7a := Lib.hid hT7; have HA7a := Lib.hid hA7; clear hO7 hT7 hA7)
      have H7 := Lib.hid (Ha.out.grow (k := 0) rfl HO7a.out HT7a.out HA7a.out)
      have HO7 := Lib.hid ((HO3.out.later ((Below.refl _ _).alloc (Nat.le_refl _) _) (Nat.le_refl _)).turned (Ha.out.sl (k := 0) rfl) (show (24 : TypeId) ≠ 3 from by decide) (show (24 : TypeId) ≠ 22 from by decide) HT7a.out)
      have HC7 : Hid (B0 ≤ w.heap.size → CellsOf w7 B0 (vs ++ [.slice a5 gl c5, .slice b5 (4 * gl) d5, .int .i64 0]) (T.take (i + 1))) := Lib.hid (fun h => ((HC3.out h).later ((Below.refl _ _).alloc (Nat.le_refl _) _)).turned (show (24 : TypeId) ≠ 3 from by decide) h (Ha.out.sl (k := 0) rfl) HT7a.out)
      go_roundg (gs.length - (i + 1))
      case measure => omega
      case rel =>
        refine ⟨i + 1, A7, e7, _, by omega, rfl, by go_num, rfl, hle, HO7.out, HC7.out, ?_, H7.out⟩
        rw [List.length_append, Hvl.out]; show i * 3 + 3 = (i + 1) * 3; omega
    · obtain rfl : i = gs.length := by omega
      have c3 := Hh.out.cell (k := 0) (i := 2) rfl rfl
      have HC0 : Hid (B0 ≤ w.heap.size → CellsOf wr B0 vs (T ++ List.replicate 0 ([], [], 1))) := Lib.hid (fun h => by
        have g := HCl.out h
        rw [List.take_of_length_le (by rw [← HT.out, List.length_map]; exact Nat.le_refl _)] at g
        simpa using g)
      have HTl : Hid (T.length = gs.length) := Lib.hid (by rw [← HT.out, List.length_map])
      clear HCl HO HPt HT HGn
      go_wp2_with fail
      go_loopg [25, 3] lp (fun g v s3 wr => ∃ (k : Nat) (A : Option Addr) (C : Nat) (vs : List Value), k ≤ lp ∧ g = lp - k ∧ v = .int .i64 k ∧ s3 = .slice A (gs.length + k) C ∧ gs.length + k ≤ C ∧ (B0 ≤ w.heap.size → CellsOf wr B0 vs (T ++ List.replicate k ([], [], 1))) ∧ vs.length = (gs.length + k) * 3 ∧ HH w wr [(w.heap.size, rowO 24 [.slice aS n cS, .slice aM N cM, .int .i64 (lp : Int)])] [⟨A, C * 3, 24, vs⟩])
      case atStart => exact ⟨0, A, C, vs, Nat.zero_le _, rfl, rfl, rfl, hiC, HC0.out, Hvl.out, Hh.out⟩
      case round =>
        obtain ⟨k, A, C, vs, hk, rfl, rfl, rfl, hkC, hc, hvl, hh⟩ := hrel
        replace HC0 := Lib.hid hc
        replace Hh := Lib.hid hh
        replace Hvl := Lib.hid hvl
        clear hc hh hvl
        by_cases hkl : k < lp
        · have Ha := Lib.hid (Hh.out.call ((Below.refl _ _).alloc (Nat.le_refl _) (.cells #[.slice none 0 0, .slice none 0 0, .int .i64 1] 24)))
          have Hus : Hid (VAt (wr.alloc (.cells #[.slice none 0 0, .slice none 0 0, .int .i64 1] 24)) (some ⟨wr.heap.size, 0, none⟩) [.slice none 0 0, .slice none 0 0, .int .i64 1]) := Lib.hid (Row.new wr #[.slice none 0 0, .slice none 0 0, .int .i64 1] 24).at
          have Hu1 : Hid (∀ u ∈ ([.slice none 0 0, .slice none 0 0, .int .i64 1] : List Value), u.oneCell' = true) := Lib.hid (by
            intro u hu
            simp only [List.mem_cons, List.not_mem_nil, or_false] at hu
            rcases hu with rfl | rfl | rfl <;> rfl)
          have Hum : Hid (([.slice none 0 0, .slice none 0 0, .int .i64 1] : List Value).length = 1 * 3) := Lib.hid rfl
          have Hl1 := Lib.hid Ha.out.below.size
          have HC3 : Hid (B0 ≤ w.heap.size → CellsOf wr B0 (vs ++ [.slice none 0 0, .slice none 0 0, .int .i64 1]) (T ++ List.replicate (k + 1) ([], [], 1))) := Lib.hid (fun h => by
            rw [List.replicate_succ', ← List.append_assoc]
            exact (HC0.out h).append (CellsOf.one (S := []) (M := []) (TI.nil _ _) (TI.nil _ _)))
          go_wp2_with (with_reducible refine wpList_append_wide rfl (.tmp 27) (.tmp 29) 33 33 rfl w.heap.size 24 i0 _ 56 3 Tryz.underlying33 Tryz.underlying33 hi0 hz0 hz1 (by decide) hz2 Hzc.out A (gs.length + k) C vs rfl Hvl.out hkC (Ha.out.sl (k := 0) rfl) (some ⟨wr.heap.size, 0, none⟩) 1 1 [.slice none 0 0, .slice none 0 0, .int .i64 1] rfl Hum.out Hus.out Hu1.out (by omega) (by omega) Hl1.out ?_; intro A7 e7 w7 hle hO7 hT7 hA7; have HO7a := Lib.hid hO7; have HT7a := Lib.hid hT7; have HA7a := Lib.hid hA7; clear hO7 hT7 hA7)
          have H7 := Lib.hid (Ha.out.grow (k := 0) rfl HO7a.out HT7a.out HA7a.out)
          have HC7 : Hid (B0 ≤ w.heap.size → CellsOf w7 B0 (vs ++ [.slice none 0 0, .slice none 0 0, .int .i64 1]) (T ++ List.replicate (k + 1) ([], [], 1))) := Lib.hid (fun h => ((HC3.out h).later ((Below.refl _ _).alloc (Nat.le_refl _) _)).turned (show (24 : TypeId) ≠ 3 from by decide) h (Ha.out.sl (k := 0) rfl) HT7a.out)
          go_roundg (lp - (k + 1))
          case measure => omega
          case rel =>
            refine ⟨k + 1, A7, e7, _, by omega, rfl, by go_num, rfl, hle, HC7.out, ?_, H7.out⟩
            rw [List.length_append, Hvl.out]; show (gs.length + k) * 3 + 3 = (gs.length + (k + 1)) * 3; omega
        · obtain rfl : k = lp := by omega
          go_wp2_with fail
          go_ret
          refine ⟨A, C, rfl, fun h => ⟨vs, Hh.out.sl (k := 0) rfl, ?_, HC0.out h⟩, Hh.out.below⟩
          rw [List.length_append, List.length_replicate, HTl.out]; exact hkC
end Go.Proofs.YtmjoijfafachhaaGreatDoor


namespace Go.Proofs.YtmjoijfafachhaaGreatDoor
open Go Go.RowKit
/-- The last group that holds c. -/
def selG (gs : List (List Nat)) (c : Nat) : List Nat := gs.foldl (fun acc g => if c ∈ g then g else acc) []
theorem selG_take {gs : List (List Nat)} {i : Nat} (c : Nat) (h : i < gs.length) : selG (gs.take (i + 1)) c = if c ∈ gs.getD i [] then gs.getD i [] else selG (gs.take i) c := by
  unfold selG
  rw [List.take_add_one, getD_some (d := []) h, List.foldl_append]
  rfl
theorem selG_acc (c : Nat) (G : List Nat) : ∀ (gs : List (List Nat)) (acc : List Nat), (∀ g ∈ gs, c ∈ g → g = G) → (acc = G ∨ ∃ g ∈ gs, c ∈ g) → gs.foldl (fun acc g => if c ∈ g then g else acc) acc = G
  | [], acc, _, h => by
    rcases h with h | ⟨g, hg, _⟩
    · exact h
    · simp at hg
  | g :: gs, acc, h1, h2 => by
    show gs.foldl _ (if c ∈ g then g else acc) = G
    refine selG_acc c G gs _ (fun u hu => h1 u (List.mem_cons_of_mem _ hu)) ?_
    by_cases hc : c ∈ g
    · rw [if_pos hc]; exact .inl (h1 g List.mem_cons_self hc)
    · rw [if_neg hc]
      rcases h2 with h | ⟨u, hu, hcu⟩
      · exact .inl h
      · rcases List.mem_cons.1 hu with e | e
        · subst e; exact absurd hcu hc
        · exact .inr ⟨u, e, hcu⟩
theorem clsN_eq {M : List Int} {n c d : Nat} (hm : MateOk M n) (hc : c < n) (h : Conn M c d) : clsN M n c = clsN M n d := by
  unfold clsN
  refine List.filter_congr fun u hu => ?_
  have e : Conn M c u ↔ Conn M d u := ⟨fun k => (hm.conn_symm hc h).trans k, fun k => h.trans k⟩
  rw [show Conn M c u = Conn M d u from propext e]
theorem grp_of {M : List Int} {n c : Nat} (hm : MateOk M n) (_ : c < n) {g : List Nat} (hg : g ∈ grpOf M n) (h : c ∈ g) : g = clsN M n c := by
  obtain ⟨l, hl, rfl⟩ := List.mem_map.1 hg
  exact clsN_eq hm (mem_leadsN.1 hl).1 (mem_clsN.1 h).2
theorem grp_has {M : List Int} {n : Nat} (hm : MateOk M n) : ∀ c, c < n → clsN M n c ∈ grpOf M n := fun c hc => by
  obtain ⟨l, hl, h1, h2⟩ : ∃ l, l < n ∧ Conn M l c ∧ ∀ d, d < l → ¬ Conn M d l := by
    have key : ∀ k, k ≤ n → (∃ l, l < k ∧ Conn M l c) → ∃ l, l < n ∧ Conn M l c ∧ ∀ d, d < l → ¬ Conn M d l := fun k => by
      induction k with
      | zero => rintro _ ⟨l, h, _⟩; omega
      | succ k ih =>
        rintro hk ⟨l, h, g⟩
        by_cases e : ∃ l, l < k ∧ Conn M l c
        · exact ih (by omega) e
        · have : l = k := by
            rcases Nat.lt_or_ge l k with u | u
            · exact absurd ⟨l, u, g⟩ e
            · omega
          subst this
          exact ⟨l, by omega, g, fun d hd q => e ⟨d, hd, q.trans g⟩⟩
    exact key n (Nat.le_refl _) ⟨c, hc, Conn.refl M c⟩
  exact List.mem_map.2 ⟨l, mem_leadsN.2 ⟨hl, h2⟩, clsN_eq hm hl h1⟩
theorem cls_self {M : List Int} {n c : Nat} (hc : c < n) : c ∈ clsN M n c := mem_clsN.2 ⟨hc, Conn.refl M c⟩
theorem selG_grp {M : List Int} {n c : Nat} (hm : MateOk M n) (hc : c < n) : selG (grpOf M n) c = clsN M n c :=
  selG_acc c _ _ _ (fun _ hg h => grp_of hm hc hg h) (.inr ⟨_, grp_has hm c hc, cls_self hc⟩)
/-- The part of a crossing. -/
noncomputable def ptD (S M : List Int) (c : Nat) : Dgm := (partS S (clsN M S.length c), partM M (clsN M S.length c), 0)
/-- What Factor gives. -/
noncomputable def facA (S M : List Int) (x y : Nat) : Dgm := ptD S (crossL M x y) (x / 4)
noncomputable def facB (S M : List Int) (x y : Nat) : Dgm := ptD S (crossL M x y) (y / 4)
/-- Prime factors, to a depth. -/
noncomputable def primeN : Nat → List Int → List Int → Int → List Dgm
  | 0, S, M, L => [(S, M, L)]
  | k + 1, S, M, L => match cutsL S M with
    | [] => [(S, M, L)]
    | p :: _ => primeN k (facA S M p.1 p.2).1 (facA S M p.1 p.2).2.1 (facA S M p.1 p.2).2.2 ++ primeN k (facB S M p.1 p.2).1 (facB S M p.1 p.2).2.1 (facB S M p.1 p.2).2.2
noncomputable def primeL (S M : List Int) (L : Int) : List Dgm := primeN S.length S M L
/-- .. of a list. -/
noncomputable def primesL (ds : List Dgm) : List Dgm := ds.flatMap fun d => primeL d.1 d.2.1 d.2.2
noncomputable def factorsL (S M : List Int) (L : Int) : List Dgm := primesL (splitL S M L)
section
variable {S M : List Int} {L : Int} (hv : vldB S M L = true)
include hv
theorem cutB_iff {x y : Nat} (hx : x < 4 * S.length) (hy : y < 4 * S.length) : cutB S (leftL M S.length) M x y = true ↔ outB S x = true ∧ outB S y = true ∧ OnOrb (fc M) x y ∧ OnOrb (fc M) (mt M x) (mt M y) := by
  obtain ⟨hs, _⟩ := vldB_iff.1 hv
  have hm := hs.mates2
  have h1 := left_iff hm hx hy
  have h2 := left_iff hm (hm.lt hx) (hm.lt hy)
  unfold cutB leftL
  simp only [Bool.and_eq_true, beq_iff_eq, h1, h2, and_assoc]
omit hv in
theorem mem_cutRow {F : List Int} {x y : Nat} {p : Nat × Nat} : p ∈ cutRow S F M x y ↔ p.1 = x ∧ x < p.2 ∧ p.2 < y ∧ cutB S F M x p.2 = true := by
  unfold cutRow
  rw [List.mem_map]
  constructor
  · rintro ⟨z, hz, rfl⟩
    rw [List.mem_filter, List.mem_range, Bool.and_eq_true, decide_eq_true_iff] at hz
    exact ⟨rfl, hz.2.1, hz.1, hz.2.2⟩
  · rintro ⟨h1, h2, h3, h4⟩
    refine ⟨p.2, ?_, by rw [← h1]⟩
    rw [List.mem_filter, List.mem_range, Bool.and_eq_true, decide_eq_true_iff]
    exact ⟨h3, h2, h4⟩
omit hv in
theorem mem_cutTo {F : List Int} {N : Nat} {p : Nat × Nat} : ∀ k, p ∈ cutTo S F M N k ↔ p.1 < k ∧ p.1 < p.2 ∧ p.2 < N ∧ cutB S F M p.1 p.2 = true := fun k => by
  induction k with
  | zero => simp [cutTo]
  | succ k ih =>
    show p ∈ cutTo S F M N k ++ cutRow S F M k N ↔ _
    rw [List.mem_append, ih, mem_cutRow]
    constructor
    · rintro (⟨h1, h2⟩ | ⟨h1, h2, h3, h4⟩)
      · exact ⟨by omega, h2⟩
      · subst h1; exact ⟨by omega, h2, h3, h4⟩
    · rintro ⟨h1, h2, h3, h4⟩
      rcases Nat.lt_or_ge p.1 k with u | u
      · exact .inl ⟨u, h2, h3, h4⟩
      · obtain rfl : p.1 = k := by omega
        exact .inr ⟨rfl, h2, h3, h4⟩
theorem mem_cuts {p : Nat × Nat} : p ∈ cutsL S M ↔ p.1 < p.2 ∧ p.2 < 4 * S.length ∧ outB S p.1 = true ∧ outB S p.2 = true ∧ OnOrb (fc M) p.1 p.2 ∧ OnOrb (fc M) (mt M p.1) (mt M p.2) := by
  unfold cutsL
  rw [mem_cutTo]
  constructor
  · rintro ⟨h1, h2, h3, h4⟩
    exact ⟨h2, h3, (cutB_iff hv h1 h3).1 h4⟩
  · rintro ⟨h2, h3, h4⟩
    exact ⟨by omega, h2, h3, (cutB_iff hv (by omega) h3).2 h4⟩
/-- The parts at a cut. -/
theorem fac_good {x y : Nat} (hx : x < 4 * S.length) (hy : y < 4 * S.length) (hox : outB S x = true) (hoy : outB S y = true) (hxy : x ≠ y) (h1 : OnOrb (fc M) x y) (h2 : OnOrb (fc M) (mt M x) (mt M y)) :
    vldB S (crossL M x y) L = true ∧ vldB (facA S M x y).1 (facA S M x y).2.1 0 = true ∧ vldB (facB S M x y).1 (facB S M x y).2.1 0 = true ∧ (facA S M x y).1.length < S.length ∧ (facB S M x y).1.length < S.length := by
  obtain ⟨hv', hno⟩ := cut_sph hv hx hy hox hoy hxy h1 h2
  obtain ⟨hs', _⟩ := vldB_iff.1 hv'
  have hm' := hs'.mates2.ok
  have key : ∀ (c d : Nat), c < S.length → d < S.length → ¬ Conn (crossL M x y) c d → vldB (ptD S (crossL M x y) c).1 (ptD S (crossL M x y) c).2.1 0 = true ∧ (ptD S (crossL M x y) c).1.length < S.length := fun c d hc hd hn => by
    refine ⟨part_valid hv' (whole_cls hm' c) (Int.le_refl _) (by omega), ?_⟩
    show (partS S (clsN (crossL M x y) S.length c)).length < S.length
    rw [partS_len]
    unfold clsN
    have h3 := List.length_filter_lt_length_iff_exists (l := List.range S.length) (p := fun u => okC (Conn (crossL M x y) c u))
    rw [List.length_range] at h3
    refine h3.2 ⟨d, List.mem_range.2 hd, fun e => hn (okC_iff.1 e)⟩
  have a := key (x / 4) (y / 4) (by omega) (by omega) hno
  have b := key (y / 4) (x / 4) (by omega) (by omega) (fun h => hno (hm'.conn_symm (by omega) h))
  exact ⟨hv', a.1, b.1, a.2, b.2⟩
theorem fac_cuts {p : Nat × Nat} (hp : p ∈ cutsL S M) : vldB S (crossL M p.1 p.2) L = true ∧ vldB (facA S M p.1 p.2).1 (facA S M p.1 p.2).2.1 0 = true ∧ vldB (facB S M p.1 p.2).1 (facB S M p.1 p.2).2.1 0 = true ∧ (facA S M p.1 p.2).1.length < S.length ∧ (facB S M p.1 p.2).1.length < S.length := by
  obtain ⟨h1, h2, h3, h4, h5, h6⟩ := (mem_cuts hv).1 hp
  exact fac_good hv (by omega) h2 h3 h4 (by omega) h5 h6
end
theorem primeN_none {S M : List Int} {L : Int} (h : cutsL S M = []) (k : Nat) : primeN k S M L = [(S, M, L)] := by
  cases k with
  | zero => rfl
  | succ k => show (match cutsL S M with | [] => _ | p :: _ => _) = _; rw [h]
theorem primeN_cons {S M : List Int} {L : Int} {p : Nat × Nat} {l : List (Nat × Nat)} (h : cutsL S M = p :: l) (k : Nat) : primeN (k + 1) S M L = primeN k (facA S M p.1 p.2).1 (facA S M p.1 p.2).2.1 0 ++ primeN k (facB S M p.1 p.2).1 (facB S M p.1 p.2).2.1 0 := by
  show (match cutsL S M with | [] => _ | p :: _ => _) = _
  rw [h]; rfl
theorem fac_cuts0 {S M : List Int} {L : Int} (hv : vldB S M L = true) {p : Nat × Nat} {l : List (Nat × Nat)} (h : cutsL S M = p :: l) : vldB S (crossL M p.1 p.2) L = true ∧ vldB (facA S M p.1 p.2).1 (facA S M p.1 p.2).2.1 0 = true ∧ vldB (facB S M p.1 p.2).1 (facB S M p.1 p.2).2.1 0 = true ∧ (facA S M p.1 p.2).1.length < S.length ∧ (facB S M p.1 p.2).1.length < S.length := fac_cuts hv (by rw [h]; exact List.mem_cons_self)
/-- The depth does not matter once it is great enough. -/
theorem primeN_deep : ∀ (n : Nat) (S M : List Int) (L : Int), S.length ≤ n → vldB S M L = true → ∀ k j, S.length ≤ k → S.length ≤ j → primeN k S M L = primeN j S M L := fun n => by
  induction n with
  | zero =>
    intro S M L hn hv k j _ _
    have : cutsL S M = [] := by
      cases h : cutsL S M with
      | nil => rfl
      | cons p l => have := (fac_cuts0 hv h).2.2.2.1; omega
    rw [primeN_none this, primeN_none this]
  | succ n ih =>
    intro S M L hn hv k j hk hj
    cases h : cutsL S M with
    | nil => rw [primeN_none h, primeN_none h]
    | cons p l =>
      obtain ⟨_, va, vb, la, lb⟩ := fac_cuts0 hv h
      obtain ⟨k, rfl⟩ : ∃ k', k = k' + 1 := ⟨k - 1, by omega⟩
      obtain ⟨j, rfl⟩ : ∃ j', j = j' + 1 := ⟨j - 1, by omega⟩
      rw [primeN_cons h, primeN_cons h, ih _ _ _ (by omega) va k j (by omega) (by omega), ih _ _ _ (by omega) vb k j (by omega) (by omega)]
theorem primeL_none {S M : List Int} {L : Int} (h : cutsL S M = []) : primeL S M L = [(S, M, L)] := primeN_none h _
theorem primeL_cons {S M : List Int} {L : Int} (hv : vldB S M L = true) {p : Nat × Nat} {l : List (Nat × Nat)} (h : cutsL S M = p :: l) : primeL S M L = primeL (facA S M p.1 p.2).1 (facA S M p.1 p.2).2.1 0 ++ primeL (facB S M p.1 p.2).1 (facB S M p.1 p.2).2.1 0 := by
  obtain ⟨_, va, vb, la, lb⟩ := fac_cuts0 hv h
  obtain ⟨k, hk⟩ : ∃ k', S.length = k' + 1 := ⟨S.length - 1, by omega⟩
  unfold primeL
  rw [hk, primeN_cons h, primeN_deep _ _ _ _ (Nat.le_refl _) va k (facA S M p.1 p.2).1.length (by omega) (Nat.le_refl _), primeN_deep _ _ _ _ (Nat.le_refl _) vb k (facB S M p.1 p.2).1.length (by omega) (Nat.le_refl _)]
end Go.Proofs.YtmjoijfafachhaaGreatDoor


namespace Go.Proofs.YtmjoijfafachhaaGreatDoor
open Go Go.RowKit
theorem fac_sum {S M : List Int} {L : Int} (hv : vldB S M L = true) {p : Nat × Nat} (hp : p ∈ cutsL S M) : (facA S M p.1 p.2).1.length + (facB S M p.1 p.2).1.length ≤ S.length ∧ 0 < (facA S M p.1 p.2).1.length ∧ 0 < (facB S M p.1 p.2).1.length := by
  obtain ⟨h1, h2, h3, h4, h5, h6⟩ := (mem_cuts hv).1 hp
  have hx : p.1 < 4 * S.length := by omega
  obtain ⟨hv', hno⟩ := cut_sph hv hx h2 h3 h4 (by omega) h5 h6
  have hm := (vldB_shape hv').mates2.ok
  show (partS S (clsN (crossL M p.1 p.2) S.length (p.1 / 4))).length + (partS S (clsN (crossL M p.1 p.2) S.length (p.2 / 4))).length ≤ S.length ∧ 0 < (partS S (clsN (crossL M p.1 p.2) S.length (p.1 / 4))).length ∧ 0 < (partS S (clsN (crossL M p.1 p.2) S.length (p.2 / 4))).length
  rw [partS_len, partS_len]
  have w1 := whole_cls hm (p.1 / 4)
  have w2 := whole_cls hm (p.2 / 4)
  have hnd : (clsN (crossL M p.1 p.2) S.length (p.1 / 4) ++ clsN (crossL M p.1 p.2) S.length (p.2 / 4)).Nodup := by
    rw [List.nodup_append]
    refine ⟨w1.nd, w2.nd, fun a ha b hb e => ?_⟩
    subst e
    exact hno ((mem_clsN.1 ha).2.trans (hm.conn_symm (by omega) (mem_clsN.1 hb).2))
  have hl := hnd.length_le_of_subset (l₂ := List.range S.length) fun c hc => by
    rcases List.mem_append.1 hc with e | e
    · exact List.mem_range.2 (mem_clsN.1 e).1
    · exact List.mem_range.2 (mem_clsN.1 e).1
  rw [List.length_append, List.length_range] at hl
  exact ⟨hl, List.length_pos_of_mem (cls_self (by omega)), List.length_pos_of_mem (cls_self (by omega))⟩
theorem primeN_len : ∀ (k : Nat) (S M : List Int) (L : Int), vldB S M L = true → (primeN k S M L).length ≤ max 1 S.length := fun k => by
  induction k with
  | zero => intro S M L _; show 1 ≤ _; omega
  | succ k ih =>
    intro S M L hv
    cases h : cutsL S M with
    | nil => rw [primeN_none h]; show 1 ≤ _; omega
    | cons p l =>
      obtain ⟨_, va, vb, _, _⟩ := fac_cuts0 hv h
      obtain ⟨s1, s2, s3⟩ := fac_sum hv (p := p) (by rw [h]; exact List.mem_cons_self)
      rw [primeN_cons h, List.length_append]
      have a := ih _ _ _ va
      have b := ih _ _ _ vb
      omega
theorem primeL_len {S M : List Int} {L : Int} (hv : vldB S M L = true) : (primeL S M L).length ≤ 64 := by
  have := primeN_len S.length S M L hv
  have hf := (vldB_shape hv).few
  unfold primeL; omega
section
variable {P : Program} {ops : Array Oper} {o : Oper} {a : Act} {w : World}
/-- Append of elements of k cells at a step of a region that draws its order. -/
theorem step_append_wide {K : Act → World → Prop} {Q : Exit → Act → World → Prop} {Z : Prop} (hg : o.guard = none) (s x : Operand) (t tx : TypeId) (hop : o.op = .call { callee := .builtin .append, args := #[s, x], argTypes := #[t, tx] })
    (B : Nat) (E : TypeId) (i : TypeInfo) (z : Value) (bytes k : Nat) (h1 : P.underlying t = some (.slice E)) (h1x : P.underlying tx = some (.slice E)) (h2 : P.info? E = some i) (h3 : i.zero = some z) (h4 : i.size = k) (hk : 0 < k) (h5 : i.bytes = bytes) (hz : z.cells.size = k)
    (A : Option Addr) (n c : Nat) (vs : List Value) (hs : a.eval s = .slice A n c) (hn : vs.length = n * k) (hnc : n ≤ c) (hown : Own w B E A (c * k) vs) (ax : Option Addr) (m cx : Nat) (us : List Value) (hx : a.eval x = .slice ax m cx) (hm : us.length = m * k) (hus : VAt w ax us) (hu1 : ∀ u ∈ us, u.oneCell' = true)
    (hbytes : (n + m) * bytes ≤ 140737488355328) (h63 : n + m ≤ 9223372036854775807) (hB : B ≤ w.heap.size)
    (hK : ∀ A' c' w', n + m ≤ c' → Own w' B E A' (c' * k) (vs ++ us) → Turned w w' A → (∀ x, A' = some x → (w.heap.size ≤ x.block ∨ ∃ y, A = some y ∧ x = y)) → K (a.put o.dst (.slice A' (n + m) c')) w') :
    if Region.wanted o (yielded ops a.tmps) = true then Oper.wp P o a w K Q else Z := by
  have hw : Region.wanted o (yielded ops a.tmps) = true := by simp [Region.wanted, hg]
  rw [if_pos hw]
  obtain ⟨a', c', w', hrun, r0, r1, r2, r3⟩ := run_append_wide (P := P) w B t tx o.type E i z bytes k h1 h1x h2 h3 h4 hk h5 hz A n c vs hn hnc hown ax m cx us hm hus hu1 hbytes h63 hB
  unfold Oper.wp
  simp [execOp, hop, resolve, invoke, builtin, hs, hx, hrun, Result.andThen]
  exact hK a' c' w' r0 r1 r2 r3
end
/-- One-cell values: what lists of diagrams hold. -/
theorem CellsOf.one' {w : World} {B0 : Nat} {vs : List Value} {ds : List Dgm} (h : CellsOf w B0 vs ds) : ∀ u ∈ vs, u.oneCell' = true := fun u hu => by
  obtain ⟨j, hj, rfl⟩ := List.getElem_of_mem hu
  have hl := h.1
  have hd : j / 3 < ds.length := by omega
  obtain ⟨a, c, b, e, h1, h2, h3, _⟩ := h.2 (j / 3) _ (List.getElem?_eq_getElem hd)
  have hj3 : j % 3 = 0 ∨ j % 3 = 1 ∨ j % 3 = 2 := by omega
  rcases hj3 with g | g | g
  · rw [show j / 3 * 3 = j by omega, List.getElem?_eq_getElem hj] at h1
    rw [Option.some.inj h1]; rfl
  · rw [show j / 3 * 3 + 1 = j by omega, List.getElem?_eq_getElem hj] at h2
    rw [Option.some.inj h2]; rfl
  · rw [show j / 3 * 3 + 2 = j by omega, List.getElem?_eq_getElem hj] at h3
    rw [Option.some.inj h3]; rfl
end Go.Proofs.YtmjoijfafachhaaGreatDoor


