/- connect.Split: the parts of a diagram. Plain law: what Factor and prime compute: the two parts at a cut, the prime factors. Plain: the numbering from a crossing lists its component. Plain: the pieces of a diagram within another one; the codes do not depend on the numbers of the crossings. -/
import Derived.WalkKit
import Derived.WalkSpells
import Derived.WalkLawsBesides
import Derived.Deep.AppendSrc
import Derived.Deep.LoopGhost
import Derived.Deep.QuietTactic
import Derived.Deep.RegionWith
import Derived.Deep.DeepMust
import Derived.Deep.DeepFit
import Derived.BigQuiet
import Derived.Lib.Hide
import Derived.Outline
import Derived.Test.YtmjoijfafachhaaProg
import Derived.Deep.Matrix
import Derived.Deep.DeepCutAuto
import Derived.Deep.RegionLaw
import Derived.Deep.RegionHeld3
import Derived.Test.YtmjoijfafachhaaSAa
import Derived.Test.YtmjoijfafachhaaSAc
import Derived.Test.YtmjoijfafachhaaSAd
import Derived.Test.YtmjoijfafachhaaSAe
import Derived.Test.YtmjoijfafachhaaSAf
import Derived.Test.YtmjoijfafachhaaSAg
import Derived.Test.YtmjoijfafachhaaSAh
import Derived.Test.YtmjoijfafachhaaSAi
import Derived.Test.YtmjoijfafachhaaSAj
import Derived.Test.YtmjoijfafachhaaSAk
import Derived.Test.YtmjoijfafachhaaSAl
import Derived.Test.YtmjoijfafachhaaSAm
import Derived.Test.YtmjoijfafachhaaSAb
namespace Go.Proofs.Ytmjoijfafachhaa
open Go Go.RowKit
/-- The parts as diagrams, and the loops. -/
noncomputable def splitL (S M : List Int) (L : Int) : List Dgm := (grpOf M S.length).map (fun G => (partS S G, partM M G, 0)) ++ List.replicate L.toNat ([], [], 1)
theorem grp_whole {M : List Int} {n : Nat} (hm : MateOk M n) {G : List Nat} (h : G ∈ grpOf M n) : Whole M n G ∧ 0 < G.length := by
  obtain ⟨c, hc, rfl⟩ := List.mem_map.1 h
  refine ⟨whole_cls hm c, ?_⟩
  have hcn := (mem_leadsN.1 hc).1
  exact List.length_pos_of_mem (mem_clsN.2 ⟨hcn, Conn.refl M c⟩)
theorem grp_len (M : List Int) (n : Nat) : (grpOf M n).length ≤ n := by
  unfold grpOf leadsN
  rw [List.length_map]
  have := List.length_filter_le (fun c => okC (∀ d, d < c → ¬ Conn M d c)) (List.range n)
  rwa [List.length_range] at this
set_option maxRecDepth 100000 in
set_option maxHeartbeats 4000000 in
theorem split_any (S M : List Int) (L : Int) (aS aM : Option Addr) (cS cM : Nat) (w : World) (hv : vldB S M L = true) (hS : IntsAt w aS S) (hM : IntsAt w aM M) (B0 : Nat) :
    Calls Try.prog 14 #[.agg #[.slice aS S.length cS, .slice aM M.length cM, .int .i64 L]] w fun e w' => ∃ A C, e = .returned (.slice A (splitL S M L).length C) ∧ (B0 ≤ w.heap.size → DLO w' w.heap.size B0 A C (splitL S M L)) ∧ Below w.heap.size w w' := by
  have hs := vldB_shape hv
  have hm := hs.mates
  have hfw := hs.few
  have hlo := hs.lo
  have hhi := hs.hi
  have HV : Hid (∀ W', Below w.heap.size w W' → Calls Try.prog 26 #[.agg #[.slice aS S.length cS, .slice aM M.length cM, .int .i64 L]] W' fun e w' => e = .returned (.bool true) ∧ Below W'.heap.size W' w') := Lib.hid fun W' h => by
    have g := valid_any S M L aS aM cS cM W' (by omega) (by rw [hs.len]; omega) (hS.later h) (hM.later h)
    rw [hv] at g; exact g
  have HGr : Hid (∀ W', Below w.heap.size w W' → Calls Try.prog 28 #[.agg #[.slice aS S.length cS, .slice aM M.length cM, .int .i64 L]] W' fun e w' => ∃ a c, e = .returned (.slice a (grpOf M S.length).length c) ∧ OwnRows w' W'.heap.size a c ((grpOf M S.length).map nats) ∧ Below W'.heap.size W' w') := Lib.hid fun W' h => graph_any S M L aS aM cS cM W' hv (hS.later h) (hM.later h)
  have HPt : Hid (∀ i, i < (grpOf M S.length).length → ∀ aG cG W', Below w.heap.size w W' → IntsAt W' aG (nats ((grpOf M S.length).getD i [])) → Calls Try.prog 48 #[.agg #[.slice aS S.length cS, .slice aM M.length cM, .int .i64 L], .slice aG ((grpOf M S.length).getD i []).length cG] W' fun e w' => ∃ a b c d, e = .returned (.agg #[.slice a ((grpOf M S.length).getD i []).length c, .slice b (4 * ((grpOf M S.length).getD i []).length) d, .int .i64 0]) ∧ Own w' W'.heap.size 3 a c (ints (partS S ((grpOf M S.length).getD i []))) ∧ Own w' W'.heap.size 3 b d (ints (partM M ((grpOf M S.length).getD i []))) ∧ Below W'.heap.size W' w') := Lib.hid fun i hi aG cG W' h hg => by
    have hmem : (grpOf M S.length).getD i [] ∈ grpOf M S.length := by
      rw [List.getD_eq_getElem?_getD, List.getElem?_eq_getElem hi]; exact List.getElem_mem hi
    exact part_any S M L aS aM aG cS cM cG _ W' hv (grp_whole hm hmem).1 (hS.later h) (hM.later h) hg
  have hgl := grp_len M S.length
  have HGn : Hid (∀ i, i < (grpOf M S.length).length → ((grpOf M S.length).getD i []).length ≤ 1000000) := Lib.hid fun i hi => by
    have hmem : (grpOf M S.length).getD i [] ∈ grpOf M S.length := by
      rw [List.getD_eq_getElem?_getD, List.getElem?_eq_getElem hi]; exact List.getElem_mem hi
    have hw := (grp_whole hm hmem).1
    have := hw.nd.length_le_of_subset (l₂ := List.range S.length) fun c hc => List.mem_range.2 (hw.lt c hc)
    rw [List.length_range] at this; omega
  obtain ⟨lp, rfl⟩ : ∃ lp : Nat, L = (lp : Int) := ⟨L.toNat, by omega⟩
  have HSp : Hid (splitL S M (lp : Int) = (grpOf M S.length).map (fun G => (partS S G, partM M G, 0)) ++ List.replicate lp ([], [], 1)) := Lib.hid (by unfold splitL; rw [Int.toNat_natCast])
  have hlp64 : lp ≤ 64 := by omega
  rw [HSp.out, List.length_append, List.length_map, List.length_replicate]
  obtain ⟨i0, hi0, hz0, hz1, hz2⟩ := info_parts Try.info24
  have Hzc : Hid ((Value.agg #[.slice none 0 0, .slice none 0 0, .int .i64 0]).cells.size = 3) := Lib.hid rfl
  have H0 := Lib.hid ((HH.start w).alloc #[.slice aS S.length cS, .slice aM M.length cM, .int .i64 (lp : Int)] 24 rfl rfl)
  clear hs hm hv hS hM HSp
  generalize grpOf M S.length = gs at *
  generalize hT : gs.map (fun G => ((partS S G, partM M G, (0 : Int)) : Dgm)) = T at *
  have HT := Lib.hid hT
  clear hT
  generalize S.length = n at *
  generalize M.length = N at *
  go_enter Try.func14, Try.ntmps14
  go_wp2_with fail
  refine (HV.out _ H0.out.below).mono ?_
  rintro e w1 ⟨rfl, hb⟩
  have H1 := Lib.hid (H0.out.call hb)
  clear hb H0 HV
  have c1 := H1.out.cell (k := 0) (i := 0) rfl rfl
  have c2 := H1.out.cell (k := 0) (i := 1) rfl rfl
  have c3 := H1.out.cell (k := 0) (i := 2) rfl rfl
  go_wp2_with fail
  clear c1 c2 c3
  refine (HGr.out _ H1.out.below).mono ?_
  rintro e w2 ⟨aP, cP, rfl, ho, hb⟩
  have H2 := Lib.hid ((H1.out.call hb).addNil 24)
  have HO := Lib.hid ho
  have hq : w.heap.size ≤ w1.heap.size := H1.out.below.size
  clear hb ho H1 HGr
  generalize w1.heap.size = q at *
  go_wp2_with fail
  go_loopg [12, 3] gs.length (fun g v s3 wr => ∃ (i : Nat) (A : Option Addr) (C : Nat) (vs : List Value), i ≤ gs.length ∧ g = gs.length - i ∧ v = .int .i64 i ∧ s3 = .slice A i C ∧ i ≤ C ∧ OwnRows wr q aP cP (gs.map nats) ∧ (B0 ≤ w.heap.size → CellsOf wr B0 vs (T.take i)) ∧ vs.length = i * 3 ∧ HH w wr [(w.heap.size, rowO 24 [.slice aS n cS, .slice aM N cM, .int .i64 (lp : Int)])] [⟨A, C * 3, 24, vs⟩])
  case atStart => exact ⟨0, none, 0, [], Nat.zero_le _, rfl, rfl, rfl, Nat.le_refl _, HO.out, fun _ => CellsOf.nil _ _, rfl, H2.out⟩
  case round =>
    obtain ⟨i, A, C, vs, hi, rfl, rfl, rfl, hiC, ho, hc, hvl, hh⟩ := hrel
    replace HO := Lib.hid ho
    have HCl := Lib.hid hc
    have Hh := Lib.hid hh
    have Hvl := Lib.hid hvl
    clear ho hc hh H2 hvl
    by_cases hil : i < gs.length
    · obtain ⟨b1, o1, rfl, _, _, hrow⟩ := HO.out.open (by rw [List.length_map]; omega)
      obtain ⟨a', c', hci, hro⟩ := hrow i (nats (gs.getD i [])) (by rw [List.getElem?_map, getD_some (d := []) hil]; rfl)
      rw [nats_length] at hci
      have c1 := Hh.out.cell (k := 0) (i := 0) rfl rfl
      have c2 := Hh.out.cell (k := 0) (i := 1) rfl rfl
      have c3 := Hh.out.cell (k := 0) (i := 2) rfl rfl
      have HP := Lib.hid (HPt.out i hil a' c' wr Hh.out.below hro.ints)
      have hgn : (gs.getD i []).length ≤ 1000000 := HGn.out i hil
      have hTi : T.take (i + 1) = T.take i ++ [(partS S (gs.getD i []), partM M (gs.getD i []), 0)] := by
        rw [List.take_add_one, ← HT.out, List.getElem?_map, getD_some (d := []) hil]; rfl
      have HTi := Lib.hid hTi
      clear hTi
      generalize gs.getD i [] = Gi at *
      clear hrow hro
      go_wp2_with fail
      refine HP.out.mono ?_
      rintro e w5 ⟨a5, b5, c5, d5, rfl, ho1, ho2, hb⟩
      have H3 := Lib.hid (Hh.out.call hb)
      have HO3 := Lib.hid (HO.out.later hb (Nat.le_refl _))
      have t1 : TI w5 B0 a5 (partS S Gi) := TI.own ho1
      have t2 : TI w5 B0 b5 (partM M Gi) := TI.own ho2
      have hC3 : B0 ≤ w.heap.size → CellsOf w5 B0 (vs ++ [.slice a5 Gi.length c5, .slice b5 (4 * Gi.length) d5, .int .i64 0]) (T.take (i + 1)) := fun h => by
        have h1 := (HCl.out h).later hb
        have h2 := CellsOf.one (c := c5) (e := d5) (L := 0) t1 t2
        rw [partS_len, partM_len] at h2
        have h3 := h1.append h2
        rw [HTi.out]
        exact h3
      have HC3 := Lib.hid hC3
      have Ha := Lib.hid (H3.out.call ((Below.refl _ _).alloc (Nat.le_refl _) (.cells #[.slice a5 Gi.length c5, .slice b5 (4 * Gi.length) d5, .int .i64 0] 24)))
      have Hus : Hid (VAt (w5.alloc (.cells #[.slice a5 Gi.length c5, .slice b5 (4 * Gi.length) d5, .int .i64 0] 24)) (some ⟨w5.heap.size, 0, none⟩) [.slice a5 Gi.length c5, .slice b5 (4 * Gi.length) d5, .int .i64 0]) := Lib.hid (Row.new w5 #[.slice a5 Gi.length c5, .slice b5 (4 * Gi.length) d5, .int .i64 0] 24).at
      have Hu1 : Hid (∀ u ∈ ([.slice a5 Gi.length c5, .slice b5 (4 * Gi.length) d5, .int .i64 0] : List Value), u.oneCell' = true) := Lib.hid (by
        intro u hu
        simp only [List.mem_cons, List.not_mem_nil, or_false] at hu
        rcases hu with rfl | rfl | rfl <;> rfl)
      have Hl1 := Lib.hid Ha.out.below.size
      clear hC3 t1 t2 ho1 ho2 hci HP
      generalize Gi.length = gl at *
      have Hum : Hid (([.slice a5 gl c5, .slice b5 (4 * gl) d5, .int .i64 0] : List Value).length = 1 * 3) := Lib.hid rfl
      go_wp2_with (with_reducible refine wpList_append_wide rfl (.tmp 16) (.tmp 20) 27 27 rfl w.heap.size 24 i0 _ 56 3 Try.underlying27 Try.underlying27 hi0 hz0 hz1 (by decide) hz2 Hzc.out A i C vs rfl Hvl.out hiC (Ha.out.sl (k := 0) rfl) (some ⟨w5.heap.size, 0, none⟩) 1 1 [.slice a5 gl c5, .slice b5 (4 * gl) d5, .int .i64 0] rfl Hum.out Hus.out Hu1.out (by omega) (by omega) Hl1.out ?_; intro A7 e7 w7 hle hO7 hT7 hA7; have HO7a := Lib.hid hO7; have HT7a := Lib.hid hT7; have HA7a := Lib.hid hA7; clear hO7 hT7 hA7)
      have H7 := Lib.hid (Ha.out.grow (k := 0) rfl HO7a.out HT7a.out HA7a.out)
      have HO7 := Lib.hid ((HO3.out.later ((Below.refl _ _).alloc (Nat.le_refl _) _) (Nat.le_refl _)).turned (Ha.out.sl (k := 0) rfl) (show (24 : TypeId) ≠ 3 from by decide) (show (24 : TypeId) ≠ 22 from by decide) HT7a.out)
      have HC7 : Hid (B0 ≤ w.heap.size → CellsOf w7 B0 (vs ++ [.slice a5 gl c5, .slice b5 (4 * gl) d5, .int .i64 0]) (T.take (i + 1))) := Lib.hid (fun h => ((HC3.out h).later ((Below.refl _ _).alloc (Nat.le_refl _) _)).turned (show (24 : TypeId) ≠ 3 from by decide) h (Ha.out.sl (k := 0) rfl) HT7a.out)
      go_roundg (gs.length - (i + 1))
      case measure => omega
      case rel =>
        refine ⟨i + 1, A7, e7, _, by omega, rfl, by go_num, rfl, hle, HO7.out, HC7.out, ?_, H7.out⟩
        rw [List.length_append, Hvl.out]; show i * 3 + 3 = (i + 1) * 3; omega
    · obtain rfl : i = gs.length := by omega
      have c3 := Hh.out.cell (k := 0) (i := 2) rfl rfl
      have HC0 : Hid (B0 ≤ w.heap.size → CellsOf wr B0 vs (T ++ List.replicate 0 ([], [], 1))) := Lib.hid (fun h => by
        have g := HCl.out h
        rw [List.take_of_length_le (by rw [← HT.out, List.length_map]; exact Nat.le_refl _)] at g
        simpa using g)
      have HTl : Hid (T.length = gs.length) := Lib.hid (by rw [← HT.out, List.length_map])
      clear HCl HO HPt HT HGn
      go_wp2_with fail
      go_loopg [25, 3] lp (fun g v s3 wr => ∃ (k : Nat) (A : Option Addr) (C : Nat) (vs : List Value), k ≤ lp ∧ g = lp - k ∧ v = .int .i64 k ∧ s3 = .slice A (gs.length + k) C ∧ gs.length + k ≤ C ∧ (B0 ≤ w.heap.size → CellsOf wr B0 vs (T ++ List.replicate k ([], [], 1))) ∧ vs.length = (gs.length + k) * 3 ∧ HH w wr [(w.heap.size, rowO 24 [.slice aS n cS, .slice aM N cM, .int .i64 (lp : Int)])] [⟨A, C * 3, 24, vs⟩])
      case atStart => exact ⟨0, A, C, vs, Nat.zero_le _, rfl, rfl, rfl, hiC, HC0.out, Hvl.out, Hh.out⟩
      case round =>
        obtain ⟨k, A, C, vs, hk, rfl, rfl, rfl, hkC, hc, hvl, hh⟩ := hrel
        replace HC0 := Lib.hid hc
        replace Hh := Lib.hid hh
        replace Hvl := Lib.hid hvl
        clear hc hh hvl
        by_cases hkl : k < lp
        · have Ha := Lib.hid (Hh.out.call ((Below.refl _ _).alloc (Nat.le_refl _) (.cells #[.slice none 0 0, .slice none 0 0, .int .i64 1] 24)))
          have Hus : Hid (VAt (wr.alloc (.cells #[.slice none 0 0, .slice none 0 0, .int .i64 1] 24)) (some ⟨wr.heap.size, 0, none⟩) [.slice none 0 0, .slice none 0 0, .int .i64 1]) := Lib.hid (Row.new wr #[.slice none 0 0, .slice none 0 0, .int .i64 1] 24).at
          have Hu1 : Hid (∀ u ∈ ([.slice none 0 0, .slice none 0 0, .int .i64 1] : List Value), u.oneCell' = true) := Lib.hid (by
            intro u hu
            simp only [List.mem_cons, List.not_mem_nil, or_false] at hu
            rcases hu with rfl | rfl | rfl <;> rfl)
          have Hum : Hid (([.slice none 0 0, .slice none 0 0, .int .i64 1] : List Value).length = 1 * 3) := Lib.hid rfl
          have Hl1 := Lib.hid Ha.out.below.size
          have HC3 : Hid (B0 ≤ w.heap.size → CellsOf wr B0 (vs ++ [.slice none 0 0, .slice none 0 0, .int .i64 1]) (T ++ List.replicate (k + 1) ([], [], 1))) := Lib.hid (fun h => by
            rw [List.replicate_succ', ← List.append_assoc]
            exact (HC0.out h).append (CellsOf.one (S := []) (M := []) (TI.nil _ _) (TI.nil _ _)))
          go_wp2_with (with_reducible refine wpList_append_wide rfl (.tmp 27) (.tmp 29) 27 27 rfl w.heap.size 24 i0 _ 56 3 Try.underlying27 Try.underlying27 hi0 hz0 hz1 (by decide) hz2 Hzc.out A (gs.length + k) C vs rfl Hvl.out hkC (Ha.out.sl (k := 0) rfl) (some ⟨wr.heap.size, 0, none⟩) 1 1 [.slice none 0 0, .slice none 0 0, .int .i64 1] rfl Hum.out Hus.out Hu1.out (by omega) (by omega) Hl1.out ?_; intro A7 e7 w7 hle hO7 hT7 hA7; have HO7a := Lib.hid hO7; have HT7a := Lib.hid hT7; have HA7a := Lib.hid hA7; clear hO7 hT7 hA7)
          have H7 := Lib.hid (Ha.out.grow (k := 0) rfl HO7a.out HT7a.out HA7a.out)
          have HC7 : Hid (B0 ≤ w.heap.size → CellsOf w7 B0 (vs ++ [.slice none 0 0, .slice none 0 0, .int .i64 1]) (T ++ List.replicate (k + 1) ([], [], 1))) := Lib.hid (fun h => ((HC3.out h).later ((Below.refl _ _).alloc (Nat.le_refl _) _)).turned (show (24 : TypeId) ≠ 3 from by decide) h (Ha.out.sl (k := 0) rfl) HT7a.out)
          go_roundg (lp - (k + 1))
          case measure => omega
          case rel =>
            refine ⟨k + 1, A7, e7, _, by omega, rfl, by go_num, rfl, hle, HC7.out, ?_, H7.out⟩
            rw [List.length_append, Hvl.out]; show (gs.length + k) * 3 + 3 = (gs.length + (k + 1)) * 3; omega
        · obtain rfl : k = lp := by omega
          go_wp2_with fail
          go_ret
          refine ⟨A, C, rfl, fun h => ⟨vs, Hh.out.sl (k := 0) rfl, ?_, HC0.out h⟩, Hh.out.below⟩
          rw [List.length_append, List.length_replicate, HTl.out]; exact hkC
end Go.Proofs.Ytmjoijfafachhaa

namespace Go.Proofs.Ytmjoijfafachhaa
open Go Go.RowKit
/-- The last group that holds c. -/
def selG (gs : List (List Nat)) (c : Nat) : List Nat := gs.foldl (fun acc g => if c ∈ g then g else acc) []
theorem selG_take {gs : List (List Nat)} {i : Nat} (c : Nat) (h : i < gs.length) : selG (gs.take (i + 1)) c = if c ∈ gs.getD i [] then gs.getD i [] else selG (gs.take i) c := by
  unfold selG
  rw [List.take_add_one, getD_some (d := []) h, List.foldl_append]
  rfl
theorem selG_acc (c : Nat) (G : List Nat) : ∀ (gs : List (List Nat)) (acc : List Nat), (∀ g ∈ gs, c ∈ g → g = G) → (acc = G ∨ ∃ g ∈ gs, c ∈ g) → gs.foldl (fun acc g => if c ∈ g then g else acc) acc = G
  | [], acc, _, h => by
    rcases h with h | ⟨g, hg, _⟩
    · exact h
    · simp at hg
  | g :: gs, acc, h1, h2 => by
    show gs.foldl _ (if c ∈ g then g else acc) = G
    refine selG_acc c G gs _ (fun u hu => h1 u (List.mem_cons_of_mem _ hu)) ?_
    by_cases hc : c ∈ g
    · rw [if_pos hc]; exact .inl (h1 g List.mem_cons_self hc)
    · rw [if_neg hc]
      rcases h2 with h | ⟨u, hu, hcu⟩
      · exact .inl h
      · rcases List.mem_cons.1 hu with e | e
        · subst e; exact absurd hcu hc
        · exact .inr ⟨u, e, hcu⟩
theorem clsN_eq {M : List Int} {n c d : Nat} (hm : MateOk M n) (hc : c < n) (h : Conn M c d) : clsN M n c = clsN M n d := by
  unfold clsN
  refine List.filter_congr fun u hu => ?_
  have e : Conn M c u ↔ Conn M d u := ⟨fun k => (hm.conn_symm hc h).trans k, fun k => h.trans k⟩
  rw [show Conn M c u = Conn M d u from propext e]
theorem grp_of {M : List Int} {n c : Nat} (hm : MateOk M n) (_ : c < n) {g : List Nat} (hg : g ∈ grpOf M n) (h : c ∈ g) : g = clsN M n c := by
  obtain ⟨l, hl, rfl⟩ := List.mem_map.1 hg
  exact clsN_eq hm (mem_leadsN.1 hl).1 (mem_clsN.1 h).2
theorem grp_has {M : List Int} {n : Nat} (hm : MateOk M n) : ∀ c, c < n → clsN M n c ∈ grpOf M n := fun c hc => by
  obtain ⟨l, hl, h1, h2⟩ : ∃ l, l < n ∧ Conn M l c ∧ ∀ d, d < l → ¬ Conn M d l := by
    have key : ∀ k, k ≤ n → (∃ l, l < k ∧ Conn M l c) → ∃ l, l < n ∧ Conn M l c ∧ ∀ d, d < l → ¬ Conn M d l := fun k => by
      induction k with
      | zero => rintro _ ⟨l, h, _⟩; omega
      | succ k ih =>
        rintro hk ⟨l, h, g⟩
        by_cases e : ∃ l, l < k ∧ Conn M l c
        · exact ih (by omega) e
        · have : l = k := by
            rcases Nat.lt_or_ge l k with u | u
            · exact absurd ⟨l, u, g⟩ e
            · omega
          subst this
          exact ⟨l, by omega, g, fun d hd q => e ⟨d, hd, q.trans g⟩⟩
    exact key n (Nat.le_refl _) ⟨c, hc, Conn.refl M c⟩
  exact List.mem_map.2 ⟨l, mem_leadsN.2 ⟨hl, h2⟩, clsN_eq hm hl h1⟩
theorem cls_self {M : List Int} {n c : Nat} (hc : c < n) : c ∈ clsN M n c := mem_clsN.2 ⟨hc, Conn.refl M c⟩
theorem selG_grp {M : List Int} {n c : Nat} (hm : MateOk M n) (hc : c < n) : selG (grpOf M n) c = clsN M n c :=
  selG_acc c _ _ _ (fun _ hg h => grp_of hm hc hg h) (.inr ⟨_, grp_has hm c hc, cls_self hc⟩)
/-- The part of a crossing. -/
noncomputable def ptD (S M : List Int) (c : Nat) : Dgm := (partS S (clsN M S.length c), partM M (clsN M S.length c), 0)
/-- What Factor gives. -/
noncomputable def facA (S M : List Int) (x y : Nat) : Dgm := ptD S (crossL M x y) (x / 4)
noncomputable def facB (S M : List Int) (x y : Nat) : Dgm := ptD S (crossL M x y) (y / 4)
/-- Prime factors, to a depth. -/
noncomputable def primeN : Nat → List Int → List Int → Int → List Dgm
  | 0, S, M, L => [(S, M, L)]
  | k + 1, S, M, L => match cutsL S M with
    | [] => [(S, M, L)]
    | p :: _ => primeN k (facA S M p.1 p.2).1 (facA S M p.1 p.2).2.1 (facA S M p.1 p.2).2.2 ++ primeN k (facB S M p.1 p.2).1 (facB S M p.1 p.2).2.1 (facB S M p.1 p.2).2.2
noncomputable def primeL (S M : List Int) (L : Int) : List Dgm := primeN S.length S M L
/-- .. of a list. -/
noncomputable def primesL (ds : List Dgm) : List Dgm := ds.flatMap fun d => primeL d.1 d.2.1 d.2.2
noncomputable def factorsL (S M : List Int) (L : Int) : List Dgm := primesL (splitL S M L)
section
variable {S M : List Int} {L : Int} (hv : vldB S M L = true)
include hv
theorem cutB_iff {x y : Nat} (hx : x < 4 * S.length) (hy : y < 4 * S.length) : cutB S (leftL M S.length) M x y = true ↔ outB S x = true ∧ outB S y = true ∧ OnOrb (fc M) x y ∧ OnOrb (fc M) (mt M x) (mt M y) := by
  obtain ⟨hs, _⟩ := vldB_iff.1 hv
  have hm := hs.mates2
  have h1 := left_iff hm hx hy
  have h2 := left_iff hm (hm.lt hx) (hm.lt hy)
  unfold cutB leftL
  simp only [Bool.and_eq_true, beq_iff_eq, h1, h2, and_assoc]
omit hv in
theorem mem_cutRow {F : List Int} {x y : Nat} {p : Nat × Nat} : p ∈ cutRow S F M x y ↔ p.1 = x ∧ x < p.2 ∧ p.2 < y ∧ cutB S F M x p.2 = true := by
  unfold cutRow
  rw [List.mem_map]
  constructor
  · rintro ⟨z, hz, rfl⟩
    rw [List.mem_filter, List.mem_range, Bool.and_eq_true, decide_eq_true_iff] at hz
    exact ⟨rfl, hz.2.1, hz.1, hz.2.2⟩
  · rintro ⟨h1, h2, h3, h4⟩
    refine ⟨p.2, ?_, by rw [← h1]⟩
    rw [List.mem_filter, List.mem_range, Bool.and_eq_true, decide_eq_true_iff]
    exact ⟨h3, h2, h4⟩
omit hv in
theorem mem_cutTo {F : List Int} {N : Nat} {p : Nat × Nat} : ∀ k, p ∈ cutTo S F M N k ↔ p.1 < k ∧ p.1 < p.2 ∧ p.2 < N ∧ cutB S F M p.1 p.2 = true := fun k => by
  induction k with
  | zero => simp [cutTo]
  | succ k ih =>
    show p ∈ cutTo S F M N k ++ cutRow S F M k N ↔ _
    rw [List.mem_append, ih, mem_cutRow]
    constructor
    · rintro (⟨h1, h2⟩ | ⟨h1, h2, h3, h4⟩)
      · exact ⟨by omega, h2⟩
      · subst h1; exact ⟨by omega, h2, h3, h4⟩
    · rintro ⟨h1, h2, h3, h4⟩
      rcases Nat.lt_or_ge p.1 k with u | u
      · exact .inl ⟨u, h2, h3, h4⟩
      · obtain rfl : p.1 = k := by omega
        exact .inr ⟨rfl, h2, h3, h4⟩
theorem mem_cuts {p : Nat × Nat} : p ∈ cutsL S M ↔ p.1 < p.2 ∧ p.2 < 4 * S.length ∧ outB S p.1 = true ∧ outB S p.2 = true ∧ OnOrb (fc M) p.1 p.2 ∧ OnOrb (fc M) (mt M p.1) (mt M p.2) := by
  unfold cutsL
  rw [mem_cutTo]
  constructor
  · rintro ⟨h1, h2, h3, h4⟩
    exact ⟨h2, h3, (cutB_iff hv h1 h3).1 h4⟩
  · rintro ⟨h2, h3, h4⟩
    exact ⟨by omega, h2, h3, (cutB_iff hv (by omega) h3).2 h4⟩
/-- The parts at a cut. -/
theorem fac_good {x y : Nat} (hx : x < 4 * S.length) (hy : y < 4 * S.length) (hox : outB S x = true) (hoy : outB S y = true) (hxy : x ≠ y) (h1 : OnOrb (fc M) x y) (h2 : OnOrb (fc M) (mt M x) (mt M y)) :
    vldB S (crossL M x y) L = true ∧ vldB (facA S M x y).1 (facA S M x y).2.1 0 = true ∧ vldB (facB S M x y).1 (facB S M x y).2.1 0 = true ∧ (facA S M x y).1.length < S.length ∧ (facB S M x y).1.length < S.length := by
  obtain ⟨hv', hno⟩ := cut_sph hv hx hy hox hoy hxy h1 h2
  obtain ⟨hs', _⟩ := vldB_iff.1 hv'
  have hm' := hs'.mates2.ok
  have key : ∀ (c d : Nat), c < S.length → d < S.length → ¬ Conn (crossL M x y) c d → vldB (ptD S (crossL M x y) c).1 (ptD S (crossL M x y) c).2.1 0 = true ∧ (ptD S (crossL M x y) c).1.length < S.length := fun c d hc hd hn => by
    refine ⟨part_valid hv' (whole_cls hm' c) (Int.le_refl _) (by omega), ?_⟩
    show (partS S (clsN (crossL M x y) S.length c)).length < S.length
    rw [partS_len]
    unfold clsN
    have h3 := List.length_filter_lt_length_iff_exists (l := List.range S.length) (p := fun u => okC (Conn (crossL M x y) c u))
    rw [List.length_range] at h3
    refine h3.2 ⟨d, List.mem_range.2 hd, fun e => hn (okC_iff.1 e)⟩
  have a := key (x / 4) (y / 4) (by omega) (by omega) hno
  have b := key (y / 4) (x / 4) (by omega) (by omega) (fun h => hno (hm'.conn_symm (by omega) h))
  exact ⟨hv', a.1, b.1, a.2, b.2⟩
theorem fac_cuts {p : Nat × Nat} (hp : p ∈ cutsL S M) : vldB S (crossL M p.1 p.2) L = true ∧ vldB (facA S M p.1 p.2).1 (facA S M p.1 p.2).2.1 0 = true ∧ vldB (facB S M p.1 p.2).1 (facB S M p.1 p.2).2.1 0 = true ∧ (facA S M p.1 p.2).1.length < S.length ∧ (facB S M p.1 p.2).1.length < S.length := by
  obtain ⟨h1, h2, h3, h4, h5, h6⟩ := (mem_cuts hv).1 hp
  exact fac_good hv (by omega) h2 h3 h4 (by omega) h5 h6
end
theorem primeN_none {S M : List Int} {L : Int} (h : cutsL S M = []) (k : Nat) : primeN k S M L = [(S, M, L)] := by
  cases k with
  | zero => rfl
  | succ k => show (match cutsL S M with | [] => _ | p :: _ => _) = _; rw [h]
theorem primeN_cons {S M : List Int} {L : Int} {p : Nat × Nat} {l : List (Nat × Nat)} (h : cutsL S M = p :: l) (k : Nat) : primeN (k + 1) S M L = primeN k (facA S M p.1 p.2).1 (facA S M p.1 p.2).2.1 0 ++ primeN k (facB S M p.1 p.2).1 (facB S M p.1 p.2).2.1 0 := by
  show (match cutsL S M with | [] => _ | p :: _ => _) = _
  rw [h]; rfl
theorem fac_cuts0 {S M : List Int} {L : Int} (hv : vldB S M L = true) {p : Nat × Nat} {l : List (Nat × Nat)} (h : cutsL S M = p :: l) : vldB S (crossL M p.1 p.2) L = true ∧ vldB (facA S M p.1 p.2).1 (facA S M p.1 p.2).2.1 0 = true ∧ vldB (facB S M p.1 p.2).1 (facB S M p.1 p.2).2.1 0 = true ∧ (facA S M p.1 p.2).1.length < S.length ∧ (facB S M p.1 p.2).1.length < S.length := fac_cuts hv (by rw [h]; exact List.mem_cons_self)
/-- The depth does not matter once it is great enough. -/
theorem primeN_deep : ∀ (n : Nat) (S M : List Int) (L : Int), S.length ≤ n → vldB S M L = true → ∀ k j, S.length ≤ k → S.length ≤ j → primeN k S M L = primeN j S M L := fun n => by
  induction n with
  | zero =>
    intro S M L hn hv k j _ _
    have : cutsL S M = [] := by
      cases h : cutsL S M with
      | nil => rfl
      | cons p l => have := (fac_cuts0 hv h).2.2.2.1; omega
    rw [primeN_none this, primeN_none this]
  | succ n ih =>
    intro S M L hn hv k j hk hj
    cases h : cutsL S M with
    | nil => rw [primeN_none h, primeN_none h]
    | cons p l =>
      obtain ⟨_, va, vb, la, lb⟩ := fac_cuts0 hv h
      obtain ⟨k, rfl⟩ : ∃ k', k = k' + 1 := ⟨k - 1, by omega⟩
      obtain ⟨j, rfl⟩ : ∃ j', j = j' + 1 := ⟨j - 1, by omega⟩
      rw [primeN_cons h, primeN_cons h, ih _ _ _ (by omega) va k j (by omega) (by omega), ih _ _ _ (by omega) vb k j (by omega) (by omega)]
theorem primeL_none {S M : List Int} {L : Int} (h : cutsL S M = []) : primeL S M L = [(S, M, L)] := primeN_none h _
theorem primeL_cons {S M : List Int} {L : Int} (hv : vldB S M L = true) {p : Nat × Nat} {l : List (Nat × Nat)} (h : cutsL S M = p :: l) : primeL S M L = primeL (facA S M p.1 p.2).1 (facA S M p.1 p.2).2.1 0 ++ primeL (facB S M p.1 p.2).1 (facB S M p.1 p.2).2.1 0 := by
  obtain ⟨_, va, vb, la, lb⟩ := fac_cuts0 hv h
  obtain ⟨k, hk⟩ : ∃ k', S.length = k' + 1 := ⟨S.length - 1, by omega⟩
  unfold primeL
  rw [hk, primeN_cons h, primeN_deep _ _ _ _ (Nat.le_refl _) va k (facA S M p.1 p.2).1.length (by omega) (Nat.le_refl _), primeN_deep _ _ _ _ (Nat.le_refl _) vb k (facB S M p.1 p.2).1.length (by omega) (Nat.le_refl _)]
end Go.Proofs.Ytmjoijfafachhaa

namespace Go.Proofs.Ytmjoijfafachhaa
open Go Go.RowKit
theorem adj_mt {M : List Int} {c s : Nat} (hs : s < 4) : Adj M c (mt M (4 * c + s) / 4) := ⟨s, hs, rfl⟩
theorem ordTo_conn (M : List Int) (r : Nat) : ∀ i c, c ∈ ordTo M r i → Conn M r c
  | 0, c, h => by
    obtain rfl : c = r := by simpa [ordTo] using h
    exact Conn.refl _ _
  | i + 1, c, h => by
    rw [ordTo] at h
    split at h
    · rename_i hi
      rcases ordRow_cases h with h | ⟨s, hs, rfl⟩
      · exact ordTo_conn M r i c h
      · have h1 := ordTo_conn M r i ((ordTo M r i).getD i 0) (by rw [List.getD_eq_getElem?_getD, List.getElem?_eq_getElem hi]; exact List.getElem_mem hi)
        exact fun Q h0 hq => hq _ _ (h1 Q h0 hq) (adj_mt hs)
    · exact ordTo_conn M r i c h
theorem ordL_cl {M : List Int} {r n : Nat} (hm : ∀ x, x < 4 * n → mt M x < 4 * n) (hr : r < n) : Cl M (ordL M r n) (ordL M r n).length := by
  have hl := ordTo_len hm hr n
  have hp : ordTo M r (ordTo M r n).length <+: ordTo M r n := ordTo_pre M r hl
  have hf : ordTo M r (ordTo M r n).length = ordTo M r n := by
    obtain ⟨d, hd⟩ := Nat.exists_eq_add_of_le hl
    have := ordTo_fix (M := M) (r := r) (i := (ordTo M r n).length) hp.length_le d
    rw [← hd] at this
    exact this.symm
  have := ordTo_cl M r (ordTo M r n).length (by rw [hf]; exact Nat.le_refl _)
  rw [hf] at this
  exact this
theorem mem_ordL {M : List Int} {r n c : Nat} (hm : ∀ x, x < 4 * n → mt M x < 4 * n) (hr : r < n) : c ∈ ordL M r n ↔ Conn M r c := by
  constructor
  · exact ordTo_conn M r n c
  · intro h
    refine h (fun c => c ∈ ordL M r n) ((ordTo_pre M r (Nat.zero_le n)).subset (by simp [ordTo])) ?_
    rintro x y hx ⟨s, hs, rfl⟩
    obtain ⟨j, hj, e⟩ := List.mem_iff_getElem.1 hx
    have := (ordL_cl hm hr).2 j hj s hs
    rw [List.getD_eq_getElem?_getD, List.getElem?_eq_getElem hj] at this
    simp only [Option.getD_some] at this
    rw [e] at this
    exact this
theorem ordL_perm {M : List Int} {n : Nat} (hmo : MateOk M n) (hm : ∀ x, x < 4 * n → mt M x < 4 * n) {G : List Nat} (hG : G ∈ grpOf M n) {r : Nat} (hr : r ∈ G) : (ordL M r n).Perm G := by
  have hw := (grp_whole hmo hG).1
  have hrn := hw.lt r hr
  have hg := grp_of hmo hrn hG hr
  refine (List.perm_ext_iff_of_nodup (ordTo_nodup M r n) hw.nd).2 fun c => ?_
  show c ∈ ordL M r n ↔ c ∈ G
  rw [mem_ordL hm hrn]
  constructor
  · intro h
    rw [hg, mem_clsN]
    exact ⟨ordTo_lt hm hrn n c ((mem_ordL hm hrn).2 h), h⟩
  · intro h
    rw [hg, mem_clsN] at h
    exact h.2
theorem ordL_len {M : List Int} {n : Nat} (hmo : MateOk M n) (hm : ∀ x, x < 4 * n → mt M x < 4 * n) {G : List Nat} (hG : G ∈ grpOf M n) {r : Nat} (hr : r ∈ G) : (ordL M r n).length = G.length := (ordL_perm hmo hm hG hr).length_eq
end Go.Proofs.Ytmjoijfafachhaa

namespace Go.Proofs.Ytmjoijfafachhaa
open Go Go.RowKit
theorem up_at (e : Nat → Nat) {c s : Nat} (h : s < 4) : upE e (4 * c + s) = 4 * e c + s := by
  unfold upE
  rw [show (4 * c + s) / 4 = c by omega, show (4 * c + s) % 4 = s by omega]
theorem idx_map {e : Nat → Nat} {n : Nat} (hi : ∀ c d, c < n → d < n → e c = e d → c = d) {d : Nat} (hd : d < n) : ∀ (o : List Nat), (∀ c, c ∈ o → c < n) → (o.map e).idxOf (e d) = o.idxOf d
  | [], _ => rfl
  | a :: o, h => by
    rw [List.map_cons, List.idxOf_cons, List.idxOf_cons, idx_map hi hd o fun c hc => h c (List.mem_cons_of_mem _ hc)]
    by_cases g : a = d
    · subst g; simp
    · have : e a ≠ e d := fun k => g (hi a d (h a List.mem_cons_self) hd k)
      have h1 : (e a == e d) = false := by simpa using this
      have h2 : (a == d) = false := by simpa using g
      rw [h1, h2]
theorem mem_mapE {e : Nat → Nat} {n : Nat} (hi : ∀ c d, c < n → d < n → e c = e d → c = d) {d : Nat} (hd : d < n) {o : List Nat} (h : ∀ c, c ∈ o → c < n) : e d ∈ o.map e ↔ d ∈ o := by
  rw [List.mem_map]
  constructor
  · rintro ⟨a, ha, e1⟩
    rw [← hi a d (h a ha) hd e1]; exact ha
  · exact fun h => ⟨d, h, rfl⟩
theorem getD_map (e : Nat → Nat) {o : List Nat} {i : Nat} (h : i < o.length) : (o.map e).getD i 0 = e (o.getD i 0) := by
  rw [List.getD_eq_getElem?_getD, List.getD_eq_getElem?_getD, List.getElem?_map, List.getElem?_eq_getElem h]; rfl
theorem getD_mem {o : List Nat} {i : Nat} (h : i < o.length) : o.getD i 0 ∈ o := by
  rw [List.getD_eq_getElem?_getD, List.getElem?_eq_getElem h]; exact List.getElem_mem h
section
variable {S M S' M' : List Int} {n n' : Nat} {e : Nat → Nat} (E : Emb M n M' n' e) (hm : ∀ x, x < 4 * n → mt M x < 4 * n)
include E
theorem emb_mt {c s : Nat} (hc : c < n) (hs : s < 4) : mt M' (4 * e c + s) / 4 = e (mt M (4 * c + s) / 4) ∧ mt M' (4 * e c + s) % 4 = mt M (4 * c + s) % 4 := by
  have := E.mate (4 * c + s) (by omega)
  rw [up_at e hs] at this
  rw [this]
  exact ⟨upE_div _ _, upE_mod _ _⟩
include hm
theorem emb_row {c : Nat} (hc : c < n) {o : List Nat} (ho : ∀ d, d ∈ o → d < n) : ∀ k, k ≤ 4 → ordRow M' (e c) k (o.map e) = (ordRow M c k o).map e
  | 0, _ => rfl
  | k + 1, hk => by
    have hl : ∀ d, d ∈ ordRow M c k o → d < n := fun d hd => by
      rcases ordRow_cases hd with h | ⟨s, hs, rfl⟩
      · exact ho d h
      · have := hm (4 * c + s) (by omega); omega
    have hd : mt M (4 * c + k) / 4 < n := by have := hm (4 * c + k) (by omega); omega
    rw [ordRow, ordRow, emb_row hc ho k (by omega), (emb_mt E hc (by omega)).1]
    unfold addN
    by_cases g : mt M (4 * c + k) / 4 ∈ ordRow M c k o
    · rw [if_pos g, if_pos ((mem_mapE E.inj hd hl).2 g)]
    · rw [if_neg g, if_neg fun h => g ((mem_mapE E.inj hd hl).1 h), List.map_append]; rfl
theorem emb_to {r : Nat} (hr : r < n) : ∀ i, ordTo M' (e r) i = (ordTo M r i).map e
  | 0 => rfl
  | i + 1 => by
    rw [ordTo, ordTo, emb_to hr i, List.length_map]
    by_cases g : i < (ordTo M r i).length
    · have ho := ordTo_lt hm hr i
      rw [if_pos g, if_pos g, getD_map e g, emb_row E hm (ho _ (getD_mem g)) ho 4 (by omega)]
    · rw [if_neg g, if_neg g]
theorem emb_ord {r : Nat} (hr : r < n) (hn : n ≤ n') : ordL M' (e r) n' = (ordL M r n).map e := by
  unfold ordL
  rw [emb_to E hm hr]
  obtain ⟨d, rfl⟩ := Nat.exists_eq_add_of_le hn
  rw [ordTo_fix (ordTo_len hm hr n) d]
theorem emb_code (hS : ∀ c, c < n → nth S' (e c) = nth S c) {r : Nat} (hr : r < n) (hn : n ≤ n') : codeL S' M' (e r) n' = codeL S M r n := by
  have ho : ∀ d, d ∈ ordL M r n → d < n := ordTo_lt hm hr n
  unfold codeL
  rw [emb_ord E hm hr hn, List.length_map]
  unfold codeTo
  rw [List.flatMap_eq_foldl, List.flatMap_eq_foldl]
  have key : ∀ i, i ≤ (ordL M r n).length → (List.range i).flatMap (fun j => rowC S' M' ((ordL M r n).map e) (((ordL M r n).map e).getD j 0) 4) = (List.range i).flatMap (fun j => rowC S M (ordL M r n) ((ordL M r n).getD j 0) 4) := fun i hi => by
    rw [List.flatMap_def, List.flatMap_def]
    congr 1
    refine List.map_congr_left fun j hj => ?_
    have hj := List.mem_range.1 hj
    have hjl : j < (ordL M r n).length := by omega
    have hc : (ordL M r n).getD j 0 < n := ho _ (getD_mem hjl)
    rw [getD_map e hjl]
    unfold rowC
    rw [hS _ hc]
    congr 1
    refine List.map_congr_left fun s hs => ?_
    have hs := List.mem_range.1 hs
    have hd : mt M (4 * (ordL M r n).getD j 0 + s) / 4 < n := by have := hm (4 * (ordL M r n).getD j 0 + s) (by omega); omega
    rw [(emb_mt E hc hs).1, (emb_mt E hc hs).2, idx_map E.inj hd _ ho]
  have := key (ordL M r n).length (Nat.le_refl _)
  rw [List.flatMap_eq_foldl, List.flatMap_eq_foldl] at this
  exact this
end
theorem pie_is (S M : List Int) (n : Nat) {G : List Nat} (h : 0 < G.length) : PieIs S M n G (pieOf S M n G) := by
  have key : ∀ k, k < G.length → PieIs S M n (G.take (k + 1)) ((G.take (k + 1)).foldl (pieStep S M n) ([], [], 0)) := fun k => by
    induction k with
    | zero =>
      intro hk
      rw [List.take_add_one, List.getElem?_eq_getElem hk]
      exact PieIs.one S M n _
    | succ k ih =>
      intro hk
      have := (ih (by omega)).next (G[k + 1])
      rw [List.take_add_one, List.getElem?_eq_getElem hk, Option.toList_some, List.foldl_append]
      exact this
  have := key (G.length - 1) (by omega)
  rw [show G.length - 1 + 1 = G.length by omega, List.take_of_length_le (Nat.le_refl _)] at this
  exact this
/-- How many crossings yield the code. -/
def rootsN (S M : List Int) (n : Nat) (G : List Nat) (c : List Int) : Nat := G.countP fun r => decide (codeL S M r n = c)
theorem pie_len {S M : List Int} {n : Nat} {l : List Nat} {p : Dgm} (h : PieIs S M n l p) : p.1.length = 5 * p.2.1.length := by
  obtain ⟨r, _, e1, e2⟩ := h.at_
  rw [e1, e2, nats_length, codeL_len]
theorem pie_roots (S M : List Int) (n : Nat) {G : List Nat} (h : 0 < G.length) : (pieOf S M n G).2.2 = (rootsN S M n G (pieOf S M n G).1 : Int) := by
  have key : ∀ k, k < G.length → ((G.take (k + 1)).foldl (pieStep S M n) ([], [], 0)).2.2 = (rootsN S M n (G.take (k + 1)) ((G.take (k + 1)).foldl (pieStep S M n) ([], [], 0)).1 : Int) := fun k => by
    induction k with
    | zero =>
      intro hk
      rw [List.take_add_one, List.getElem?_eq_getElem hk]
      simp [pieStep, rootsN]
    | succ k ih =>
      intro hk
      have i1 := ih (by omega)
      have h0 := pie_is S M n (G := G.take (k + 1)) (by rw [List.length_take]; omega)
      rw [List.take_add_one, List.getElem?_eq_getElem hk, Option.toList_some, List.foldl_append]
      unfold pieOf at h0
      generalize (G.take (k + 1)).foldl (pieStep S M n) ([], [], 0) = p at *
      obtain ⟨r0, hr0, e1, e2⟩ := h0.at_
      have hne : p.1 ≠ [] := by rw [e1]; exact codeL_ne _ _ _ _
      have hcount : ∀ c, rootsN S M n (G.take (k + 1) ++ [G[k + 1]]) c = rootsN S M n (G.take (k + 1)) c + (if codeL S M G[k + 1] n = c then 1 else 0) := fun c => by
        unfold rootsN
        rw [List.countP_append, List.countP_singleton]
        simp
      show (pieStep S M n p G[k + 1]).2.2 = _
      rw [List.foldl_cons, List.foldl_nil, hcount]
      unfold pieStep
      rw [if_neg hne]
      by_cases h1 : cmpL (codeL S M G[k + 1] n) p.1 < 0
      · rw [if_pos h1]
        show (1 : Int) = _
        have hz : rootsN S M n (G.take (k + 1)) (codeL S M G[k + 1] n) = 0 := by
          unfold rootsN
          rw [List.countP_eq_zero]
          intro r hr
          have := h0.le r hr
          intro hc
          have hc := of_decide_eq_true hc
          rw [hc] at this
          unfold leL at this
          rw [cmpL_swap (codeL S M G[k + 1] n) p.1] at this
          omega
        show (1 : Int) = ((rootsN S M n (G.take (k + 1)) (codeL S M G[k + 1] n) + if codeL S M G[k + 1] n = codeL S M G[k + 1] n then 1 else 0 : Nat) : Int)
        rw [hz, if_pos rfl]; rfl
      · rw [if_neg h1]
        by_cases h2 : cmpL (codeL S M G[k + 1] n) p.1 = 0
        · rw [if_pos h2]
          show p.2.2 + 1 = _
          rw [i1, if_pos (cmpL_zero.1 h2)]; rfl
        · rw [if_neg h2]
          show p.2.2 = _
          rw [i1, if_neg fun h => h2 (cmpL_zero.2 h)]; rfl
  have := key (G.length - 1) (by omega)
  rw [show G.length - 1 + 1 = G.length by omega, List.take_of_length_le (Nat.le_refl _)] at this
  exact this
/-- The least code of some crossings and their number. -/
theorem pie_least {S M S' M' : List Int} {n n' : Nat} {G G' : List Nat} (h : 0 < G.length) (h' : 0 < G'.length) (f : Nat → Nat) (hp : G'.Perm (G.map f)) (hc : ∀ r, r ∈ G → codeL S' M' (f r) n' = codeL S M r n) :
    (pieOf S' M' n' G').1 = (pieOf S M n G).1 ∧ (pieOf S' M' n' G').2.2 = (pieOf S M n G).2.2 := by
  have i := pie_is S M n h
  have j := pie_is S' M' n' h'
  have e : (pieOf S' M' n' G').1 = (pieOf S M n G).1 := by
    obtain ⟨r, hr, e1, _⟩ := i.at_
    obtain ⟨r', hr', e2, _⟩ := j.at_
    refine leL_antisymm ?_ ?_
    · have := j.le (f r) (hp.mem_iff.2 (List.mem_map_of_mem hr))
      rw [hc r hr, ← e1] at this
      exact this
    · obtain ⟨r0, h0, e0⟩ := List.mem_map.1 (hp.mem_iff.1 hr')
      have := i.le r0 h0
      rw [← hc r0 h0, e0, ← e2] at this
      exact this
  refine ⟨e, ?_⟩
  rw [pie_roots _ _ _ h, pie_roots _ _ _ h', e]
  congr 1
  unfold rootsN
  rw [hp.countP_eq, List.countP_map]
  refine List.countP_congr fun r hr => ?_
  show decide (codeL S' M' (f r) n' = _) = true ↔ _
  rw [hc r hr]
theorem leads_eq {M : List Int} {n : Nat} (hm : MateOk M n) {c d : Nat} (hc : c ∈ leadsN M n) (hd : d ∈ leadsN M n) (h : Conn M c d) : c = d := by
  have h1 := mem_leadsN.1 hc
  have h2 := mem_leadsN.1 hd
  rcases Nat.lt_trichotomy c d with g | g | g
  · exact absurd h (h2.2 c g)
  · exact g
  · exact absurd (hm.conn_symm h1.1 h) (h1.2 d g)
theorem grp_nodup {M : List Int} {n : Nat} (hm : MateOk M n) : (grpOf M n).Nodup := by
  unfold grpOf
  have h0 : (leadsN M n).Nodup := List.nodup_range.sublist List.filter_sublist
  rw [List.nodup_iff_pairwise_ne, List.pairwise_map]
  refine List.Pairwise.imp_of_mem (fun {c d} hc hd hne e => hne ?_) h0
  have : d ∈ clsN M n c := by rw [e]; exact cls_self (mem_leadsN.1 hd).1
  exact leads_eq hm hc hd (mem_clsN.1 this).2
theorem leads_nodup (M : List Int) (n : Nat) : (leadsN M n).Nodup := List.nodup_range.sublist List.filter_sublist
section
variable {M1 M2 M' : List Int} {n1 n2 n' : Nat} {e1 e2 : Nat → Nat} (E1 : Emb M1 n1 M' n' e1) (E2 : Emb M2 n2 M' n' e2) (h1 : Mates M1 n1) (h2 : Mates M2 n2) (hm : MateOk M' n')
  (hcov : ∀ c, c < n' → (∃ d, d < n1 ∧ e1 d = c) ∨ ∃ d, d < n2 ∧ e2 d = c) (hdis : ∀ c d, c < n1 → d < n2 → e1 c ≠ e2 d)
theorem cls_emb {M1 M' : List Int} {n1 n' : Nat} {e1 : Nat → Nat} (E1 : Emb M1 n1 M' n' e1) (h1 : Mates M1 n1) {c : Nat} (hc : c < n1) : (clsN M' n' (e1 c)).Perm ((clsN M1 n1 c).map e1) := by
  have nd : (clsN M1 n1 c).Nodup := (whole_cls h1.ok c).nd
  refine (List.perm_ext_iff_of_nodup (List.nodup_range.sublist List.filter_sublist) ?_).2 fun z => ?_
  · rw [List.nodup_iff_pairwise_ne, List.pairwise_map]
    exact List.Pairwise.imp_of_mem (fun {a b} ha hb hne e => hne (E1.inj a b (mem_clsN.1 ha).1 (mem_clsN.1 hb).1 e)) nd
  · rw [List.mem_map]
    constructor
    · intro h
      obtain ⟨d, hd, e, hcd⟩ := E1.conn_back h1 hc (mem_clsN.1 h).2
      exact ⟨d, mem_clsN.2 ⟨hd, hcd⟩, e⟩
    · rintro ⟨d, hd, rfl⟩
      obtain ⟨hd, hcd⟩ := mem_clsN.1 hd
      exact mem_clsN.2 ⟨E1.lt d hd, E1.conn_to h1 hc hcd⟩
include E1 E2 h1 h2 hm hcov hdis
theorem grp_cover : (grpOf M' n').Perm ((leadsN M1 n1).map (fun c => clsN M' n' (e1 c)) ++ (leadsN M2 n2).map (fun c => clsN M' n' (e2 c))) := by
  have cl : ∀ {x y}, y < n' → clsN M' n' x = clsN M' n' y → Conn M' x y := fun {x y} hy e => by
    have : y ∈ clsN M' n' x := by rw [e]; exact cls_self hy
    exact (mem_clsN.1 this).2
  refine (List.perm_ext_iff_of_nodup (grp_nodup hm) ?_).2 fun G => ?_
  · rw [List.nodup_append]
    refine ⟨?_, ?_, ?_⟩
    · rw [List.nodup_iff_pairwise_ne, List.pairwise_map]
      refine List.Pairwise.imp_of_mem (fun {c d} hc hd hne e => hne ?_) (leads_nodup M1 n1)
      exact leads_eq h1.ok hc hd ((E1.conn_iff h1 (mem_leadsN.1 hc).1 (mem_leadsN.1 hd).1).1 (cl (E1.lt d (mem_leadsN.1 hd).1) e))
    · rw [List.nodup_iff_pairwise_ne, List.pairwise_map]
      refine List.Pairwise.imp_of_mem (fun {c d} hc hd hne e => hne ?_) (leads_nodup M2 n2)
      exact leads_eq h2.ok hc hd ((E2.conn_iff h2 (mem_leadsN.1 hc).1 (mem_leadsN.1 hd).1).1 (cl (E2.lt d (mem_leadsN.1 hd).1) e))
    · intro G hG G2 hG2 e
      subst e
      obtain ⟨c, hc, rfl⟩ := List.mem_map.1 hG
      obtain ⟨d, hd, e⟩ := List.mem_map.1 hG2
      obtain ⟨d', hd', e', _⟩ := E1.conn_back h1 (mem_leadsN.1 hc).1 (cl (E2.lt d (mem_leadsN.1 hd).1) e.symm)
      exact hdis d' d hd' (mem_leadsN.1 hd).1 e'
  · rw [List.mem_append, List.mem_map, List.mem_map]
    constructor
    · intro h
      obtain ⟨x, hx, rfl⟩ := List.mem_map.1 h
      have hx := (mem_leadsN.1 hx).1
      rcases hcov x hx with ⟨d, hd, rfl⟩ | ⟨d, hd, rfl⟩
      · obtain ⟨l, hl, e⟩ := List.mem_map.1 (grp_has h1.ok d hd)
        have hl' := (mem_leadsN.1 hl).1
        have : d ∈ clsN M1 n1 l := by rw [e]; exact cls_self hd
        exact .inl ⟨l, hl, clsN_eq hm (E1.lt l hl') (E1.conn_to h1 hl' (mem_clsN.1 this).2)⟩
      · obtain ⟨l, hl, e⟩ := List.mem_map.1 (grp_has h2.ok d hd)
        have hl' := (mem_leadsN.1 hl).1
        have : d ∈ clsN M2 n2 l := by rw [e]; exact cls_self hd
        exact .inr ⟨l, hl, clsN_eq hm (E2.lt l hl') (E2.conn_to h2 hl' (mem_clsN.1 this).2)⟩
    · rintro (⟨c, hc, rfl⟩ | ⟨c, hc, rfl⟩)
      · exact grp_has hm _ (E1.lt c (mem_leadsN.1 hc).1)
      · exact grp_has hm _ (E2.lt c (mem_leadsN.1 hc).1)
end
/-- Code and number of roots of each piece. -/
noncomputable def pinf (S M : List Int) (n : Nat) : List (List Int × Int) := (grpOf M n).map fun G => ((pieOf S M n G).1, (pieOf S M n G).2.2)
theorem cls_pos {M : List Int} {n c : Nat} (hc : c < n) : 0 < (clsN M n c).length := List.length_pos_of_mem (cls_self hc)
theorem emb_pie {S M S' M' : List Int} {n n' : Nat} {e : Nat → Nat} (E : Emb M n M' n' e) (hm : Mates M n) (hS : ∀ c, c < n → nth S' (e c) = nth S c) (hn : n ≤ n') {c : Nat} (hc : c < n) :
    (pieOf S' M' n' (clsN M' n' (e c))).1 = (pieOf S M n (clsN M n c)).1 ∧ (pieOf S' M' n' (clsN M' n' (e c))).2.2 = (pieOf S M n (clsN M n c)).2.2 :=
  pie_least (cls_pos hc) (cls_pos (E.lt c hc)) e (cls_emb E hm hc) fun r hr => emb_code E (fun x hx => hm.lt hx) hS (mem_clsN.1 hr).1 hn
/-- What two diagrams that cover a third say of its pieces. -/
theorem pinf_cover {S1 M1 S2 M2 S' M' : List Int} {n1 n2 n' : Nat} {e1 e2 : Nat → Nat} (E1 : Emb M1 n1 M' n' e1) (E2 : Emb M2 n2 M' n' e2) (h1 : Mates M1 n1) (h2 : Mates M2 n2) (hm : MateOk M' n')
    (hcov : ∀ c, c < n' → (∃ d, d < n1 ∧ e1 d = c) ∨ ∃ d, d < n2 ∧ e2 d = c) (hdis : ∀ c d, c < n1 → d < n2 → e1 c ≠ e2 d)
    (hS1 : ∀ c, c < n1 → nth S' (e1 c) = nth S1 c) (hS2 : ∀ c, c < n2 → nth S' (e2 c) = nth S2 c) (hn1 : n1 ≤ n') (hn2 : n2 ≤ n') :
    (pinf S' M' n').Perm (pinf S1 M1 n1 ++ pinf S2 M2 n2) := by
  unfold pinf
  refine ((grp_cover E1 E2 h1 h2 hm hcov hdis).map _).trans ?_
  rw [List.map_append, List.map_map, List.map_map]
  unfold grpOf
  rw [List.map_map, List.map_map]
  refine List.Perm.of_eq ?_
  congr 1
  · refine List.map_congr_left fun c hc => ?_
    have := emb_pie E1 h1 hS1 hn1 (mem_leadsN.1 hc).1
    show ((pieOf S' M' n' (clsN M' n' (e1 c))).1, (pieOf S' M' n' (clsN M' n' (e1 c))).2.2) = ((pieOf S1 M1 n1 (clsN M1 n1 c)).1, (pieOf S1 M1 n1 (clsN M1 n1 c)).2.2)
    rw [this.1, this.2]
  · refine List.map_congr_left fun c hc => ?_
    have := emb_pie E2 h2 hS2 hn2 (mem_leadsN.1 hc).1
    show ((pieOf S' M' n' (clsN M' n' (e2 c))).1, (pieOf S' M' n' (clsN M' n' (e2 c))).2.2) = ((pieOf S2 M2 n2 (clsN M2 n2 c)).1, (pieOf S2 M2 n2 (clsN M2 n2 c)).2.2)
    rw [this.1, this.2]
/-- One that covers it. -/
theorem pinf_iso {S M S' M' : List Int} {n : Nat} {e : Nat → Nat} (E : Emb M n M' n e) (h : Mates M n) (hm : MateOk M' n) (hcov : ∀ c, c < n → ∃ d, d < n ∧ e d = c) (hS : ∀ c, c < n → nth S' (e c) = nth S c) : (pinf S' M' n).Perm (pinf S M n) := by
  have E2 : Emb [] 0 M' n e := ⟨fun c hc => by omega, fun c d hc => by omega, fun h hh => by omega⟩
  have h2 : Mates [] 0 := ⟨⟨fun h hh => by omega, fun h hh => by omega⟩, fun x hx => by omega⟩
  have := pinf_cover (S2 := []) E E2 h h2 hm (fun c hc => .inl (hcov c hc)) (fun c d _ hd => by omega) hS (fun c hc => by omega) (Nat.le_refl _) (Nat.zero_le _)
  have z : pinf [] [] 0 = [] := rfl
  rw [z, List.append_nil] at this
  exact this
end Go.Proofs.Ytmjoijfafachhaa

