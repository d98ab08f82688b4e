/- canon.pieces: the pieces of a valid diagram, sorted. slices.Sort on a slice of the call's own. Plain law: the nugatory crossings; slices.Compact on a slice of the call's own. connect.Sum, the good way: the connected sum along two half-edges. -/
import Derived.WalkKit
import Derived.WalkSpells
import Derived.WalkLawsBesides
import Derived.Deep.AppendSrc
import Derived.Deep.LoopGhost
import Derived.Deep.QuietTactic
import Derived.Deep.RegionWith
import Derived.Deep.DeepMust
import Derived.Deep.DeepFit
import Derived.BigQuiet
import Derived.Lib.Hide
import Derived.Outline
import Derived.Test.YtmjoijfafachhaaGreatDoorProg
import Derived.Deep.Matrix
import Derived.Deep.DeepCutAuto
import Derived.Deep.RegionLaw
import Derived.Deep.RegionHeld3
import Derived.Lib.SliceRun
import Derived.Sort.OwnSortedInts
import Derived.Shelf.Small.Bits
import Derived.Shelf.Small.Wraps
import Derived.Shelf.Strconv.Itoa0
import Derived.Shelf.Sort.Plain
import Derived.Shelf.Slices.Turned
import Derived.Shelf.Slices.Equal
import Derived.Ground.Names2Prog
import Derived.Shelf.Slices.Clone
import Derived.Shelf.Slices.CompactI
import Derived.Shelf.Slices.SearchI
import Derived.Shelf.Slices.Cells
import Derived.Shelf.Slices.In.SortNone
import Derived.Shelf.Slices.Empties2
import Derived.Ground.SlgnProg
import Derived.Shelf.SlicesE.Clone
import Derived.Shelf.Strings.Builder1
import Derived.Shelf.Strings.BuilderF
import Derived.Shelf.Strings.BuilderK
import Derived.Shelf.Strconv.Itoa1
import Derived.Shelf.LaysM
import Derived.Shelf.Strconv.Itoa2
import Derived.Shelf.Strconv.Itoa3
import Derived.Lib.AppendZeros
import Derived.Test.YtmjoijfafachhaaGreatDoorZuAa
import Derived.Test.YtmjoijfafachhaaGreatDoorZuAb
import Derived.Test.YtmjoijfafachhaaGreatDoorZuAc
import Derived.Test.YtmjoijfafachhaaGreatDoorZuAd
import Derived.Test.YtmjoijfafachhaaGreatDoorZuAe
import Derived.Test.YtmjoijfafachhaaGreatDoorZuAf
import Derived.Test.YtmjoijfafachhaaGreatDoorZuAg
import Derived.Test.YtmjoijfafachhaaGreatDoorZuAh
import Derived.Test.YtmjoijfafachhaaGreatDoorZuAj
import Derived.Test.YtmjoijfafachhaaGreatDoorZuAk
import Derived.Test.YtmjoijfafachhaaGreatDoorZuAl
import Derived.Test.YtmjoijfafachhaaGreatDoorZuAm
import Derived.Test.YtmjoijfafachhaaGreatDoorZuAn
import Derived.Test.YtmjoijfafachhaaGreatDoorZuAs
import Derived.Test.YtmjoijfafachhaaGreatDoorZuAt
import Derived.Test.YtmjoijfafachhaaGreatDoorZuAu
import Derived.Test.YtmjoijfafachhaaGreatDoorZuAv
import Derived.Test.YtmjoijfafachhaaGreatDoorZuAw
import Derived.Test.YtmjoijfafachhaaGreatDoorZuAo
import Derived.Test.YtmjoijfafachhaaGreatDoorZuAp
namespace Go.Proofs.YtmjoijfafachhaaGreatDoor
open Go Go.RowKit
/-- One cell of a box is written; all else stays. -/
theorem HH.put1 {w0 w : World} {y : Nat × (Obj → Prop)} {s : List SlO} {q : Nat} {vs0 : List Value} (h : HH w0 w [y, (q, rowO 78 vs0)] s) (i : Nat) (u : Value) :
    HH w0 (w.setCell ⟨q, i, none⟩ u) [y, (q, rowO 78 (vs0.set i u))] s ∧
    (∀ (B0 : Nat) (a : Option Addr) (xs : List Int), B0 ≤ w0.heap.size → TI w B0 a xs → TI (w.setCell ⟨q, i, none⟩ u) B0 a xs) ∧
    (∀ (B0 : Nat) (vs : List Value) (ds : List Dgm), B0 ≤ w0.heap.size → CellsOf w B0 vs ds → CellsOf (w.setCell ⟨q, i, none⟩ u) B0 vs ds) ∧
    (∀ (B : Nat) (a : Option Addr) (c : Nat) (xss : List (List Int)), OwnRows w B a c xss → OwnRows (w.setCell ⟨q, i, none⟩ u) B a c xss) := by
  have h1 := h.set (k := 1) rfl i u
  have hr := h.row (k := 1) rfl
  have ho := hr.own (h.obj (k := 1) rfl).1
  have t1 := turned_set w q 0 i u
  rw [Nat.zero_add] at t1
  exact ⟨h1, fun B0 a xs hB ht => ht.turned (by decide) hB ho t1, fun B0 vs ds hB hc => hc.turned (by decide) hB ho t1, fun B a c xss hx => hx.turned ho (by decide) (by decide) t1⟩
theorem nats_at (G : List Nat) {k : Nat} (h : k < G.length) : nth (nats G) k = ((G.getD k 0 : Nat) : Int) := by
  unfold nth nats
  rw [List.getD_eq_getElem?_getD, List.getD_eq_getElem?_getD, List.getElem?_map, List.getElem?_eq_getElem h]; rfl
theorem Own.tight {w : World} {B : Nat} {E : TypeId} {b off c : Nat} {vs : List Value} (h : Own w B E (some ⟨b, off, none⟩) c vs) : Own w b E (some ⟨b, off, none⟩) c vs := by
  rcases h with ⟨h, _⟩ | ⟨b', off', cur, he, _, h3⟩
  · cases h
  · cases he
    exact .inr ⟨b, off, cur, rfl, Nat.le_refl _, h3⟩
set_option maxRecDepth 100000 in
set_option maxHeartbeats 1000000 in
theorem cpieces_any (S M : List Int) (L : Int) (aS aM : Option Addr) (cS cM : Nat) (w : World) (hv : vldB S M L = true) (h20 : S.length ≤ 20) (hS : IntsAt w aS S) (hM : IntsAt w aM M) :
    Calls Tryz.prog 45 #[.agg #[.slice aS S.length cS, .slice aM M.length cM, .int .i64 L]] w fun e w' => ∃ A C ys vs, e = .returned (.slice A ys.length C) ∧ SrtTo ((grpOf M S.length).map (pieOf S M S.length)) ys ys.length ∧ Own w' w.heap.size 78 A (C * 3) vs ∧ CellsOf w' w.heap.size vs ys ∧ Below w.heap.size w w' := by
  have hs := vldB_shape hv
  have hm := hs.mates
  have HMT : Hid (∀ x, x < 4 * S.length → mt M x < 4 * S.length) := Lib.hid fun x hx => hs.mt_lt hx
  have HGr : Hid (∀ W', Below w.heap.size w W' → Calls Tryz.prog 37 #[.agg #[.slice aS S.length cS, .slice aM M.length cM, .int .i64 L]] W' fun e w' => ∃ a c, e = .returned (.slice a (grpOf M S.length).length c) ∧ OwnRows w' W'.heap.size a c ((grpOf M S.length).map nats) ∧ Below W'.heap.size W' w') := Lib.hid fun W' h => graph_any S M L aS aM cS cM W' hv (hS.later h) (hM.later h)
  have HF : Hid (∀ r, r < S.length → ∀ W', Below w.heap.size w W' → Calls Tryz.prog 74 #[.agg #[.slice aS S.length cS, .slice aM M.length cM, .int .i64 L], .int .i64 (r : Int), .slice none 0 0] W' fun e w' => ∃ A C A' C', e = .returned (.tuple #[.slice A' (codeL S M r S.length).length C', .slice A (ordL M r S.length).length C, .int .i64 (-1)]) ∧ Own w' W'.heap.size 3 A C (ints (nats (ordL M r S.length))) ∧ Own w' W'.heap.size 3 A' C' (ints (codeL S M r S.length)) ∧ Below W'.heap.size W' w') := Lib.hid fun r hr W' h => number_first S M L aS aM cS cM r W' hs hr (hS.later h) (hM.later h)
  have HNx : Hid (∀ r, r < S.length → ∀ (B : List Int) aB cB W', Below w.heap.size w W' → IntsAt W' aB B → B.length ≤ cB → B.length = 5 * (ordL M r S.length).length → Calls Tryz.prog 74 #[.agg #[.slice aS S.length cS, .slice aM M.length cM, .int .i64 L], .int .i64 (r : Int), .slice aB B.length cB] W' fun e w' => (0 < cmpL (codeL S M r S.length) B ∧ e = .returned (.tuple #[.slice none 0 0, .slice none 0 0, .int .i64 1]) ∧ Below W'.heap.size W' w') ∨ (cmpL (codeL S M r S.length) B ≤ 0 ∧ ∃ A C A' C', e = .returned (.tuple #[.slice A' (codeL S M r S.length).length C', .slice A (ordL M r S.length).length C, .int .i64 (cmpL (codeL S M r S.length) B)]) ∧ Own w' W'.heap.size 3 A C (ints (nats (ordL M r S.length))) ∧ Own w' W'.heap.size 3 A' C' (ints (codeL S M r S.length)) ∧ Below W'.heap.size W' w')) := Lib.hid fun r hr B aB cB W' h hB hc hl => number_next S M B L aS aM aB cS cM cB r W' hs hr (hS.later h) (hM.later h) hB hc hl
  have HGl : Hid (∀ i, i < (grpOf M S.length).length → 0 < ((grpOf M S.length).getD i []).length ∧ ((grpOf M S.length).getD i []).length ≤ 20 ∧ ∀ r, r ∈ (grpOf M S.length).getD i [] → r < S.length ∧ (ordL M r S.length).length = ((grpOf M S.length).getD i []).length) := Lib.hid fun i hi => by
    have hmem : (grpOf M S.length).getD i [] ∈ grpOf M S.length := by
      rw [List.getD_eq_getElem?_getD, List.getElem?_eq_getElem hi]; exact List.getElem_mem hi
    have hw := grp_whole hm hmem
    have h1 := hw.1.nd.length_le_of_subset (l₂ := List.range S.length) fun c hc => List.mem_range.2 (hw.1.lt c hc)
    rw [List.length_range] at h1
    exact ⟨hw.2, by omega, fun r hr => ⟨hw.1.lt r hr, ordL_len hm HMT.out hmem hr⟩⟩
  have hgl : (grpOf M S.length).length ≤ 20 := Nat.le_trans (grp_len M S.length) h20
  obtain ⟨i0, hi0, hz0, hz1, hz2⟩ := info_parts Tryz.info78
  have Hzc : Hid ((Value.agg #[.slice none 0 0, .slice none 0 0, .int .i64 0]).cells.size = 3) := Lib.hid rfl
  have H0 := Lib.hid ((HH.start w).alloc #[.slice aS S.length cS, .slice aM M.length cM, .int .i64 L] 24 rfl rfl)
  clear hs hm hv hS hM
  generalize grpOf M S.length = gs at *
  generalize hT : gs.map (pieOf S M S.length) = T at *
  have HT := Lib.hid hT
  clear hT
  generalize S.length = n at *
  generalize M.length = N at *
  go_enter Tryz.func45, Tryz.ntmps45
  go_wp2_with fail
  refine (HGr.out _ H0.out.below).mono ?_
  rintro e w2 ⟨aP, cP, rfl, ho, hb⟩
  have H2 := Lib.hid ((H0.out.call hb).addNil 78)
  have HO := Lib.hid ho
  clear hb ho HGr
  generalize (w.alloc (.cells #[.slice aS n cS, .slice aM N cM, .int .i64 L] 24)).heap.size = q at *
  go_wp2_with fail
  go_loopg [15, 3] gs.length (fun g v s3 wr => ∃ (i : Nat) (A : Option Addr) (C : Nat) (vs : List Value), i ≤ gs.length ∧ g = gs.length - i ∧ v = .int .i64 i ∧ s3 = .slice A i C ∧ i ≤ C ∧ OwnRows wr q aP cP (gs.map nats) ∧ CellsOf wr w.heap.size vs (T.take i) ∧ vs.length = i * 3 ∧ HH w wr [(w.heap.size, rowO 24 [.slice aS n cS, .slice aM N cM, .int .i64 L])] [⟨A, C * 3, 78, vs⟩])
  case atStart => exact ⟨0, none, 0, [], Nat.zero_le _, rfl, rfl, rfl, Nat.le_refl _, HO.out, CellsOf.nil _ _, rfl, H2.out⟩
  case round =>
    obtain ⟨i, A, C, vs, hi, rfl, rfl, rfl, hiC, ho, hc, hvl, hh⟩ := hrel
    replace HO := Lib.hid ho
    have HCl := Lib.hid hc
    have Hh := Lib.hid hh
    have Hvl := Lib.hid hvl
    clear ho hc hh H2 hvl
    by_cases hil : i < gs.length
    · obtain ⟨b1, o1, rfl, _, _, hrow⟩ := HO.out.open (by rw [List.length_map]; omega)
      obtain ⟨a', c', hci, hro⟩ := hrow i (nats (gs.getD i [])) (by rw [List.getElem?_map, getD_some (d := []) hil]; rfl)
      rw [nats_length] at hci
      have HG := Lib.hid (HGl.out i hil)
      have hg1 : 0 < (gs.getD i []).length := HG.out.1
      have hg2 : (gs.getD i []).length ≤ 20 := HG.out.2.1
      have HTi : Hid (T.take (i + 1) = T.take i ++ [pieOf S M n (gs.getD i [])]) := Lib.hid (by
        rw [List.take_add_one, ← HT.out, List.getElem?_map, getD_some (d := []) hil]; rfl)
      have HTr : Hid (TI wr w.heap.size a' (nats (gs.getD i []))) := Lib.hid (TI.own hro)
      generalize gs.getD i [] = Gi at *
      clear hrow hro
      have H3 := Lib.hid (Hh.out.alloc #[.slice none 0 0, .slice none 0 0, .int .i64 0] 78 (b := wr.heap.size) rfl rfl)
      have HX := Lib.hid (And.intro (HO.out.later ((Below.refl _ _).alloc (Nat.le_refl _) (.cells #[.slice none 0 0, .slice none 0 0, .int .i64 0] 78)) (Nat.le_refl _)) (And.intro (HCl.out.later ((Below.refl _ _).alloc (Nat.le_refl _) (.cells #[.slice none 0 0, .slice none 0 0, .int .i64 0] 78))) (HTr.out.later ((Below.refl _ _).alloc (Nat.le_refl _) (.cells #[.slice none 0 0, .slice none 0 0, .int .i64 0] 78)))))
      go_wp2_with fail
      clear Hh HO HCl HTr
      generalize wr.alloc (.cells #[.slice none 0 0, .slice none 0 0, .int .i64 0] 78) = v1 at *
      generalize wr.heap.size = bx at *
      go_loopg [21] Gi.length (fun g v ws => ∃ (k : Nat) (p : Dgm) (a b : Option Addr) (cA cB : Nat), k ≤ Gi.length ∧ g = Gi.length - k ∧ v = .int .i64 k ∧ Hid ((k = 0 → a = none ∧ cA = 0 ∧ p = ([], [], 0)) ∧ (0 < k → p.1.length = 5 * Gi.length ∧ p.1 ≠ [] ∧ p.1.length ≤ cA) ∧ p = (Gi.take k).foldl (pieStep S M n) ([], [], 0)) ∧ 0 ≤ p.2.2 ∧ p.2.2 ≤ (k : Int) ∧ Hid (TI ws w.heap.size a p.1 ∧ TI ws w.heap.size b p.2.1 ∧ TI ws w.heap.size a' (nats Gi) ∧ OwnRows ws q (some ⟨b1, o1, none⟩) cP (gs.map nats) ∧ CellsOf ws w.heap.size vs (T.take i)) ∧ HH w ws [(w.heap.size, rowO 24 [.slice aS n cS, .slice aM N cM, .int .i64 L]), (bx, rowO 78 [.slice a p.1.length cA, .slice b p.2.1.length cB, .int .i64 p.2.2])] [⟨A, C * 3, 78, vs⟩])
      case atStart => exact ⟨0, ([], [], 0), none, none, 0, 0, Nat.zero_le _, rfl, rfl, Lib.hid ⟨fun _ => ⟨rfl, rfl, rfl⟩, fun h => absurd h (Nat.lt_irrefl 0), rfl⟩, Int.le_refl _, Int.le_refl _, Lib.hid ⟨TI.nil _ _, TI.nil _ _, HX.out.2.2, HX.out.1, HX.out.2.1⟩, H3.out⟩
      case round =>
        obtain ⟨k, p, a, b, cA, cB, hk, rfl, rfl, HP, hp0, hpk, HR, hh⟩ := hrel
        have Hz := Lib.hid hh
        clear hh H3 HX
        by_cases hkl : k < Gi.length
        · obtain ⟨b9, o9, hb9, _, hc9⟩ := (HR.out.2.2.1).at.open (by rw [nats_length]; omega)
          subst hb9
          obtain ⟨r, hr⟩ : ∃ r : Nat, r = Gi.getD k 0 := ⟨_, rfl⟩
          have hrm : r ∈ Gi := by rw [hr]; exact getD_mem hkl
          have c9 : wr.cell? ⟨b9, o9 + k, none⟩ = some (.int .i64 (r : Int)) := by rw [hc9 k (by rw [nats_length]; exact hkl), nats_at Gi hkl, hr]
          have HG1 := Lib.hid (HG.out.2.2 r hrm)
          have HTk : Hid ((Gi.take (k + 1)).foldl (pieStep S M n) ([], [], 0) = pieStep S M n p r) := Lib.hid (by
            rw [List.take_add_one, List.foldl_append, ← HP.out.2.2, hr, List.getD_eq_getElem?_getD, List.getElem?_eq_getElem hkl]; rfl)
          have HX1 : Hid ((codeL S M r n).length = 5 * Gi.length ∧ codeL S M r n ≠ []) := Lib.hid ⟨by rw [codeL_len, HG1.out.2], codeL_ne _ _ _ _⟩
          have HF1 := Lib.hid (HF.out r HG1.out.1)
          have HN1 := Lib.hid (HNx.out r HG1.out.1)
          have hz1 := Hz.out.cell (k := 0) (i := 0) rfl rfl
          have hz2 := Hz.out.cell (k := 0) (i := 1) rfl rfl
          have hz3 := Hz.out.cell (k := 0) (i := 2) rfl rfl
          clear hc9 hr hrm
          have HO1 : Hid ((ordL M r n).length = Gi.length) := Lib.hid HG1.out.2
          have HS1 : Hid (∀ p : Dgm, pieStep S M n p r = if p.1 = [] then (codeL S M r n, nats (ordL M r n), 1) else if cmpL (codeL S M r n) p.1 < 0 then (codeL S M r n, nats (ordL M r n), 1) else if cmpL (codeL S M r n) p.1 = 0 then (p.1, p.2.1, p.2.2 + 1) else p) := Lib.hid fun p => rfl
          clear HG1
          generalize codeL S M r n = X at *
          generalize ordL M r n = O at *
          by_cases hk0 : k = 0
          · obtain ⟨rfl, rfl, rfl⟩ := HP.out.1 hk0
            subst hk0
            rw [Nat.add_zero] at c9
            have hy1 : wr.cell? ⟨bx, 0, none⟩ = some (.slice none 0 0) := Hz.out.cell (k := 1) (i := 0) rfl rfl
            go_wp2_with fail
            clear hz1 hz2 hz3 hy1
            refine (HF1.out _ Hz.out.below).mono ?_
            rintro e w5 ⟨A5, C5, A6, C6, rfl, ho1, ho2, hb⟩
            have H5 := Lib.hid (Hz.out.call hb)
            have HO5 := Lib.hid (And.intro ho1 ho2)
            have HR5 := Lib.hid (And.intro (HR.out.2.2.1.later hb) (And.intro (HR.out.2.2.2.1.later hb (Nat.le_refl _)) (HR.out.2.2.2.2.later hb)))
            clear ho1 ho2 hb HR
            have f0 := H5.out.frozen (k := 1) rfl 0
            have f1 := H5.out.frozen (k := 1) rfl 1
            have f2 := H5.out.frozen (k := 1) rfl 2
            have y0 : w5.cell? ⟨bx, 0, none⟩ = some (.slice none 0 0) := H5.out.cell (k := 1) (i := 0) rfl rfl
            have y1 : w5.cell? ⟨bx, 1, none⟩ = some (.slice b 0 cB) := H5.out.cell (k := 1) (i := 1) rfl rfl
            have y2 : w5.cell? ⟨bx, 2, none⟩ = some (.int .i64 0) := H5.out.cell (k := 1) (i := 2) rfl rfl
            go_wp2_with fail
            have P := Lib.hid (H5.out.put3 (.slice A6 X.length C6) (.slice A5 O.length C5) (.int .i64 1))
            go_roundg (Gi.length - (0 + 1))
            case measure => omega
            case rel =>
              refine ⟨0 + 1, (X, nats O, 1), A6, A5, C6, C5, by omega, rfl, by go_num, Lib.hid ⟨fun h => absurd h (by omega), fun _ => ⟨HX1.out.1, HX1.out.2, by have := HO5.out.2.cap; rwa [ints_length] at this⟩, by rw [HTk.out, HS1.out]; rfl⟩, (show (0 : Int) ≤ 1 by decide), (show (1 : Int) ≤ ((0 + 1 : Nat) : Int) by decide), Lib.hid ⟨P.out.2.1 _ _ _ (Nat.le_refl _) (TI.own HO5.out.2), P.out.2.1 _ _ _ (Nat.le_refl _) (TI.own HO5.out.1), P.out.2.1 _ _ _ (Nat.le_refl _) HR5.out.1, P.out.2.2.2 _ _ _ _ HR5.out.2.1, P.out.2.2.1 _ _ _ (Nat.le_refl _) HR5.out.2.2⟩, ?_⟩
              show HH w _ [_, (bx, rowO 78 [.slice A6 X.length C6, .slice A5 (nats O).length C5, .int .i64 1])] _
              rw [nats_length]
              exact P.out.1
          · obtain ⟨pc, po, pr⟩ := p
            have HQ := Lib.hid (HP.out.2.1 (by omega))
            dsimp only at *
            have hy1 := Hz.out.cell (k := 1) (i := 0) rfl rfl
            go_wp2_with fail
            clear hz1 hz2 hz3 hy1
            refine (HN1.out pc a cA _ Hz.out.below HR.out.1.at HQ.out.2.2 (by rw [HO1.out]; exact HQ.out.1)).mono ?_
            rintro e w5 (⟨hgt, rfl, hb⟩ | ⟨hle, A5, C5, A6, C6, rfl, ho1, ho2, hb⟩)
            · have H5 := Lib.hid (Hz.out.call hb)
              have HR5 := Lib.hid (And.intro (HR.out.1.later hb) (And.intro (HR.out.2.1.later hb) (And.intro (HR.out.2.2.1.later hb) (And.intro (HR.out.2.2.2.1.later hb (Nat.le_refl _)) (HR.out.2.2.2.2.later hb)))))
              have HE : Hid (pieStep S M n (pc, po, pr) r = (pc, po, pr)) := Lib.hid (by rw [HS1.out, if_neg HQ.out.2.1, if_neg (by show ¬ cmpL X pc < 0; omega), if_neg (by show ¬ cmpL X pc = 0; omega)])
              clear hb HR hgt
              go_wp2_with fail
              go_roundg (Gi.length - (k + 1))
              case measure => omega
              case rel =>
                exact ⟨k + 1, (pc, po, pr), a, b, cA, cB, by omega, rfl, by go_num, Lib.hid ⟨fun h => absurd h (by omega), fun _ => HQ.out, by rw [HTk.out, HE.out]⟩, hp0, (show pr ≤ ((k + 1 : Nat) : Int) by omega), HR5, H5.out⟩
            · have H5 := Lib.hid (Hz.out.call hb)
              have HO5 := Lib.hid (And.intro ho1 ho2)
              have HR5 := Lib.hid (And.intro (HR.out.1.later hb) (And.intro (HR.out.2.1.later hb) (And.intro (HR.out.2.2.1.later hb) (And.intro (HR.out.2.2.2.1.later hb (Nat.le_refl _)) (HR.out.2.2.2.2.later hb)))))
              clear ho1 ho2 hb HR
              have f0 := H5.out.frozen (k := 1) rfl 0
              have f1 := H5.out.frozen (k := 1) rfl 1
              have f2 := H5.out.frozen (k := 1) rfl 2
              have y0 := H5.out.cell (k := 1) (i := 0) rfl rfl
              have y1 := H5.out.cell (k := 1) (i := 1) rfl rfl
              have y2 := H5.out.cell (k := 1) (i := 2) rfl rfl
              rcases cmpL_vals X pc with hv | hv | hv
              · have HE : Hid (pieStep S M n (pc, po, pr) r = (X, nats O, 1)) := Lib.hid (by rw [HS1.out, if_neg HQ.out.2.1, if_pos (by show cmpL X pc < 0; omega)])
                rw [hv]
                clear hv hle
                go_wp2_with fail
                have P := Lib.hid (H5.out.put3 (.slice A6 X.length C6) (.slice A5 O.length C5) (.int .i64 1))
                go_roundg (Gi.length - (k + 1))
                case measure => omega
                case rel =>
                  refine ⟨k + 1, (X, nats O, 1), A6, A5, C6, C5, by omega, rfl, by go_num, Lib.hid ⟨fun h => absurd h (by omega), fun _ => ⟨HX1.out.1, HX1.out.2, by have := HO5.out.2.cap; rwa [ints_length] at this⟩, by rw [HTk.out, HE.out]⟩, (show (0 : Int) ≤ 1 by decide), (show (1 : Int) ≤ ((k + 1 : Nat) : Int) by omega), Lib.hid ⟨P.out.2.1 _ _ _ (Nat.le_refl _) (TI.own HO5.out.2), P.out.2.1 _ _ _ (Nat.le_refl _) (TI.own HO5.out.1), P.out.2.1 _ _ _ (Nat.le_refl _) HR5.out.2.2.1, P.out.2.2.2 _ _ _ _ HR5.out.2.2.2.1, P.out.2.2.1 _ _ _ (Nat.le_refl _) HR5.out.2.2.2.2⟩, ?_⟩
                  show HH w _ [_, (bx, rowO 78 [.slice A6 X.length C6, .slice A5 (nats O).length C5, .int .i64 1])] _
                  rw [nats_length]
                  exact P.out.1
              · have HE : Hid (pieStep S M n (pc, po, pr) r = (pc, po, pr + 1)) := Lib.hid (by rw [HS1.out, if_neg HQ.out.2.1, if_neg (by show ¬ cmpL X pc < 0; omega), if_pos (by show cmpL X pc = 0; omega)])
                rw [hv]
                clear hv hle
                have wr1 : IntKind.i64.wrap (pr + 1) = pr + 1 := wrapi_mid (by omega) (by omega)
                go_wp2_with fail
                have P := Lib.hid (H5.out.put1 2 (.int .i64 (pr + 1)))
                go_roundg (Gi.length - (k + 1))
                case measure => omega
                case rel =>
                  exact ⟨k + 1, (pc, po, pr + 1), a, b, cA, cB, by omega, rfl, by go_num, Lib.hid ⟨fun h => absurd h (by omega), fun _ => HQ.out, by rw [HTk.out, HE.out]⟩, (show (0 : Int) ≤ pr + 1 by omega), (show pr + 1 ≤ ((k + 1 : Nat) : Int) by omega), Lib.hid ⟨P.out.2.1 _ _ _ (Nat.le_refl _) HR5.out.1, P.out.2.1 _ _ _ (Nat.le_refl _) HR5.out.2.1, P.out.2.1 _ _ _ (Nat.le_refl _) HR5.out.2.2.1, P.out.2.2.2 _ _ _ _ HR5.out.2.2.2.1, P.out.2.2.1 _ _ _ (Nat.le_refl _) HR5.out.2.2.2.2⟩, P.out.1⟩
              · omega
        · obtain rfl : k = Gi.length := by omega
          have HE : Hid (T.take (i + 1) = T.take i ++ [p]) := Lib.hid (by rw [HTi.out, HP.out.2.2, List.take_length]; rfl)
          clear HP HTi
          obtain ⟨pc, po, pr⟩ := p
          dsimp only at *
          have HC3 : Hid (CellsOf wr w.heap.size (vs ++ [.slice a pc.length cA, .slice b po.length cB, .int .i64 pr]) (T.take (i + 1))) := Lib.hid (by
            rw [HE.out]
            exact HR.out.2.2.2.2.append (CellsOf.one HR.out.1 HR.out.2.1))
          have HO3 := Lib.hid HR.out.2.2.2.1
          clear HR HE
          generalize pc.length = l1 at *
          generalize po.length = l2 at *
          have y0 := Hz.out.cell (k := 1) (i := 0) rfl rfl
          have y1 := Hz.out.cell (k := 1) (i := 1) rfl rfl
          have y2 := Hz.out.cell (k := 1) (i := 2) rfl rfl
          have Ha := Lib.hid (Hz.out.call ((Below.refl _ _).alloc (Nat.le_refl _) (.cells #[.slice a l1 cA, .slice b l2 cB, .int .i64 pr] 78)))
          have Hus : Hid (VAt (wr.alloc (.cells #[.slice a l1 cA, .slice b l2 cB, .int .i64 pr] 78)) (some ⟨wr.heap.size, 0, none⟩) [.slice a l1 cA, .slice b l2 cB, .int .i64 pr]) := Lib.hid (Row.new wr #[.slice a l1 cA, .slice b l2 cB, .int .i64 pr] 78).at
          have Hu1 : Hid (∀ u ∈ ([.slice a l1 cA, .slice b l2 cB, .int .i64 pr] : List Value), u.oneCell' = true) := Lib.hid (by
            intro u hu
            simp only [List.mem_cons, List.not_mem_nil, or_false] at hu
            rcases hu with rfl | rfl | rfl <;> rfl)
          have Hl1 := Lib.hid Ha.out.below.size
          have Hum : Hid (([.slice a l1 cA, .slice b l2 cB, .int .i64 pr] : List Value).length = 1 * 3) := Lib.hid rfl
          go_wp2_with (with_reducible refine wpList_append_wide rfl (.tmp 48) (.tmp 50) 75 75 rfl w.heap.size 78 i0 _ 56 3 Tryz.underlying75 Tryz.underlying75 hi0 hz0 hz1 (by decide) hz2 Hzc.out A i C vs rfl Hvl.out hiC (Ha.out.sl (k := 0) rfl) (some ⟨wr.heap.size, 0, none⟩) 1 1 [.slice a l1 cA, .slice b l2 cB, .int .i64 pr] rfl Hum.out Hus.out Hu1.out (by omega) (by omega) Hl1.out ?_; intro A7 e7 w7 hle hO7 hT7 hA7; have HO7a := Lib.hid hO7; have HT7a := Lib.hid hT7; have HA7a := Lib.hid hA7; clear hO7 hT7 hA7)
          have H7 := Lib.hid (Ha.out.grow (k := 0) rfl HO7a.out HT7a.out HA7a.out)
          have HO7 := Lib.hid ((HO3.out.later ((Below.refl _ _).alloc (Nat.le_refl _) _) (Nat.le_refl _)).turned (Ha.out.sl (k := 0) rfl) (show (78 : TypeId) ≠ 3 from by decide) (show (78 : TypeId) ≠ 22 from by decide) HT7a.out)
          have HC7 : Hid (CellsOf w7 w.heap.size (vs ++ [.slice a l1 cA, .slice b l2 cB, .int .i64 pr]) (T.take (i + 1))) := Lib.hid ((HC3.out.later ((Below.refl _ _).alloc (Nat.le_refl _) _)).turned (show (78 : TypeId) ≠ 3 from by decide) (Nat.le_refl _) (Ha.out.sl (k := 0) rfl) HT7a.out)
          go_roundg (gs.length - (i + 1))
          case measure => omega
          case rel =>
            refine ⟨i + 1, A7, e7, _, by omega, rfl, by go_num, rfl, hle, HO7.out, HC7.out, ?_, H7.out.forgetK (List.Sublist.cons_cons _ (List.nil_sublist _))⟩
            rw [List.length_append, Hvl.out]; show i * 3 + 3 = (i + 1) * 3; omega
    · obtain rfl : i = gs.length := by omega
      have HTl : Hid (T.length = gs.length) := Lib.hid (by rw [← HT.out, List.length_map])
      have HC0 : Hid (CellsOf wr w.heap.size vs T) := Lib.hid (by
        have g := HCl.out
        rwa [List.take_of_length_le (by rw [HTl.out]; exact Nat.le_refl _)] at g)
      have Hbd : Hid (∀ d, d ∈ T → d.1.length ≤ 1000000 ∧ d.2.1.length ≤ 1000000) := Lib.hid fun d hd => by
        rw [← HT.out] at hd
        obtain ⟨G, hG, rfl⟩ := List.mem_map.1 hd
        obtain ⟨j, hj, e⟩ := List.mem_iff_getElem.1 hG
        have g := HGl.out j hj
        rw [List.getD_eq_getElem?_getD, List.getElem?_eq_getElem hj, Option.getD_some, e] at g
        have hp := pie_is S M n g.1
        obtain ⟨r, hr, e1, e2⟩ := hp.at_
        have := g.2.2 r hr
        rw [e1, e2, codeL_len, nats_length]; omega
      clear HCl HO HGl HF HNx
      by_cases h0 : gs.length = 0
      · have HS0 : Hid (∀ W, Calls Tryz.prog 75 #[.slice A 0 C, .func (.func 76) #[] #[]] W fun e w' => e = .returned (.tuple #[]) ∧ w' = W) := Lib.hid fun W => sstable_none A C W
        go_wp2_with fail
        refine (HS0.out _).mono ?_
        rintro e w8 ⟨rfl, hw8⟩
        subst hw8
        go_wp2_with fail
        go_ret
        have hT0 : T = [] := List.eq_nil_of_length_eq_zero (by rw [HTl.out]; exact h0)
        subst hT0
        exact ⟨A, C, [], vs, rfl, ⟨List.Perm.refl _, fun p q h1 h2 => absurd h2 (Nat.not_lt_zero _)⟩, Hh.out.sl (k := 0) rfl, HC0.out, Hh.out.below⟩
      · have ho : Own wr w.heap.size 78 A (C * 3) vs := Hh.out.sl (k := 0) rfl
        obtain ⟨b, off, rfl, hB, _⟩ := Own.open ho (by have := Hvl.out; omega)
        have HP0 : Hid (PSt w.heap.size wr b off C wr T) := Lib.hid ⟨hB, ⟨rfl, rfl, rfl, Nat.le_refl _, fun _ _ _ => rfl⟩, vs, ho.tight, HC0.out⟩
        have HS1 : Hid (Calls Tryz.prog 75 #[.slice (some ⟨b, off, none⟩) gs.length C, .func (.func 76) #[] #[]] wr fun e w' => e = .returned (.tuple #[]) ∧ ∃ ys, SrtTo T ys T.length ∧ PSt w.heap.size wr b off C w' ys) := Lib.hid (by
          rw [← HTl.out]
          exact sstable_any w.heap.size b off C T wr Hbd.out (by rw [HTl.out]; omega) (by rw [HTl.out]; exact hgl) HP0.out)
        clear ho
        go_wp2_with fail
        refine HS1.out.mono ?_
        rintro e w8 ⟨rfl, ys, hsr, hps⟩
        have HY := Lib.hid (And.intro hsr hps)
        clear hsr hps
        go_wp2_with fail
        go_ret
        obtain ⟨vs8, h8, h9⟩ := HY.out.2.cells
        have hl8 : ys.length = gs.length := by rw [HY.out.1.perm.length_eq]; exact HTl.out
        exact ⟨some ⟨b, off, none⟩, C, ys, vs8, by rw [hl8]; rfl, by rw [HY.out.1.perm.length_eq]; exact HY.out.1, h8.mono hB, h9, Hh.out.below.trans ((HY.out.2.turned.below (B := w.heap.size) Hh.out.below.size fun x hx => by cases hx; exact hB))⟩
end Go.Proofs.YtmjoijfafachhaaGreatDoor


namespace Go.Proofs.YtmjoijfafachhaaGreatDoor
open Go Go.RowKit
/-- In order. -/
def srt (xs : List Int) : List Int := xs.mergeSort fun x y => decide (x ≤ y)
theorem srt_len (xs : List Int) : (srt xs).length = xs.length := List.length_mergeSort _
theorem srt_perm (xs : List Int) : (srt xs).Perm xs := List.mergeSort_perm _ _
theorem srt_sorted (xs : List Int) : (srt xs).Pairwise (· ≤ ·) := by
  have := List.pairwise_mergeSort (le := fun (x y : Int) => decide (x ≤ y)) (fun a b c h1 h2 => by simp at *; omega) (fun a b => by simp; omega) xs
  exact this.imp fun h => of_decide_eq_true h
theorem sort_own (xs : List Int) (a : Option Addr) (c B : Nat) (w : World) (h : Own w B 3 a c (ints xs)) (hl2 : xs.length ≤ 1000000) :
    Calls Tryz.prog 26 #[.slice a xs.length c] w fun e w' => e = .returned (.tuple #[]) ∧ Own w' B 3 a c (ints (srt xs)) ∧ Turned w w' a := by
  rcases Nat.eq_zero_or_pos xs.length with h0 | h0
  · obtain rfl : xs = [] := List.eq_nil_of_length_eq_zero h0
    refine (Tryz.slices_Sort_int_none a c w).mono ?_
    rintro e w' ⟨rfl, rfl⟩
    have hs : srt [] = [] := List.eq_nil_of_length_eq_zero (by rw [srt_len]; rfl)
    rw [hs]
    exact ⟨rfl, h, rfl, rfl, rfl, Nat.le_refl _, fun _ _ _ => rfl⟩
  rcases h with ⟨_, h, _⟩ | ⟨b, off, cur, rfl, hB, hb, h4, h5, h6⟩
  · rw [← ints_length, h] at h0; cases h0
  have hlen : (ints xs).length = xs.length := ints_length _
  have hsz : b < w.heap.size := (Array.getElem?_eq_some_iff.1 hb).1
  have hH : Go.Sort.Holds (Value.int .i64) w b off xs.toArray := fun j hj => by
    have hj' : j < xs.length := by simpa using hj
    refine ⟨?_, frozen_of_row w b _ cur 3 hb⟩
    rw [cell_of_row w b _ cur 3 (0, 0) hb, h6 j _ (ints_get xs j hj')]
    simp [nth, hj']
  refine (Tryz.slices_Sort_int b off c xs w hH hsz (by omega)).mono ?_
  rintro e w' ⟨rfl, n, os, rfl⟩
  have hold : ∀ k, k < w.heap.size → b ≠ k → (Go.Sort.grow (Go.Sort.putRow (Value.int .i64) (Go.Sort.ahead w n) b off (srt xs).toArray) os).heap[k]? = w.heap[k]? := fun k hk hne => by
    rw [Go.Sort.heap_grow_old _ _ (by simpa using hk)]
    simp [Go.Sort.putRow, Go.Sort.mapBlock, Go.Sort.ahead, Array.getElem?_modify, hne]
  have hnew : (Go.Sort.grow (Go.Sort.putRow (Value.int .i64) (Go.Sort.ahead w n) b off (srt xs).toArray) os).heap[b]? = some (.cells (Go.Sort.putCells (Value.int .i64) off (srt xs).toArray cur) 3 (0, 0)) := by
    rw [Go.Sort.heap_grow_old _ _ (by simpa using hsz)]
    simp [Go.Sort.putRow, Go.Sort.mapBlock, Go.Sort.ahead, Array.getElem?_modify, hb, Go.Sort.onCells]
  refine ⟨rfl, .inr ⟨b, off, _, rfl, hB, hnew, by rw [ints_length, srt_len]; omega, by simpa [Go.Sort.putCells] using h5, fun i v hv => ?_⟩, ⟨rfl, rfl, rfl, by simp, fun k hk hne => hold k hk fun e => hne _ rfl e⟩⟩
  have hi : i < (srt xs).length := by
    rcases Nat.lt_or_ge i (srt xs).length with g | g
    · exact g
    · rw [List.getElem?_eq_none (by rw [ints_length]; exact g)] at hv; cases hv
  have hi2 : i < xs.length := by rw [srt_len] at hi; exact hi
  have hoff : off + i < cur.size := by omega
  rw [ints_get _ i hi] at hv
  rw [← Option.some.inj hv]
  simp [Go.Sort.putCells, hoff, hi, nth]
end Go.Proofs.YtmjoijfafachhaaGreatDoor


namespace Go.Proofs.YtmjoijfafachhaaGreatDoor
open Go Go.RowKit
theorem compact_own (xs : List Int) (a : Option Addr) (c B : Nat) (w : World) (h : Own w B 3 a c (ints xs)) (h0 : 0 < xs.length) (hl2 : xs.length ≤ 1000000) :
    Calls Tryz.prog 27 #[.slice a xs.length c] w fun e w' => e = .returned (.slice a (Lib.compact xs).length c) ∧ Turned w w' a := by
  have hsz := h.size
  rw [ints_length] at hsz
  obtain ⟨b, off, rfl, hB, hlt, hc, hf⟩ := h.open (by rw [ints_length]; exact h0)
  have hc' : ∀ j, j < xs.length → w.cell? ⟨b, off + j, none⟩ = some (.int .i64 (xs.getD j 0)) := fun j hj => hc j _ (ints_get xs j hj)
  refine (Tryz.slices_Compact_int_cells b off xs.length c xs w (Nat.le_refl _) (by omega) hsz hc' (fun j _ => hf _)).mono ?_
  rintro e w' ⟨he, q, rfl⟩
  rw [List.take_of_length_le (Nat.le_refl _)] at he ⊢
  obtain ⟨g1, g2, g3, g4, g5⟩ := size_setCells b ((Lib.compact xs ++ List.replicate (xs.length - (Lib.compact xs).length) 0).map (Value.int .i64)) off (w.drewN q)
  exact ⟨he, ⟨g2, g3, g4, by rw [g1]; exact Nat.le_refl _, fun k _ hk => g5 k fun e => hk _ rfl e.symm⟩⟩
/-- Do two of the four faces round c agree? -/
def nugB (F : List Int) (c : Nat) : Bool := decide ((Lib.compact (srt [nth F (4 * c), nth F (4 * c + 1), nth F (4 * c + 2), nth F (4 * c + 3)])).length < 4)
theorem compact_lt {xs : List Int} : (Lib.compact xs).length < xs.length ↔ ∃ j, 0 < j ∧ j < xs.length ∧ nth xs j = nth xs (j - 1) := by
  have hg : ∀ j, xs.toArray[j]! = nth xs j := fun j => by
    unfold nth
    rcases Nat.lt_or_ge j xs.length with h | h
    · simp [h]
    · simp [h]
  have hk : ∀ j, Lib.keeps xs.toArray j = false ↔ 0 < j ∧ nth xs j = nth xs (j - 1) := fun j => by
    unfold Lib.keeps
    rw [hg, hg]
    by_cases h0 : j = 0
    · simp [h0]
    · have : 0 < j := by omega
      by_cases h1 : nth xs j = nth xs (j - 1) <;> simp [h0, h1, this]
  unfold Lib.compact Lib.compactUpTo
  rw [List.length_map]
  have h3 := List.length_filter_lt_length_iff_exists (l := List.range xs.length) (p := Lib.keeps xs.toArray)
  rw [List.length_range] at h3
  rw [h3]
  constructor
  · rintro ⟨j, hj, h⟩
    obtain ⟨a, b⟩ := (hk j).1 (by simpa using h)
    exact ⟨j, a, List.mem_range.1 hj, b⟩
  · rintro ⟨j, a, b, c⟩
    exact ⟨j, List.mem_range.2 b, by rw [(hk j).2 ⟨a, c⟩]; simp⟩
theorem srt_dup {xs : List Int} : (Lib.compact (srt xs)).length < xs.length ↔ ¬ xs.Nodup := by
  rw [← srt_len xs, compact_lt]
  have hs := srt_sorted xs
  have hn : xs.Nodup ↔ (srt xs).Nodup := (srt_perm xs).nodup_iff.symm
  rw [hn]
  generalize srt xs = ys at *
  constructor
  · rintro ⟨j, h0, h1, h2⟩ hnd
    have := (List.getElem_inj (h₀ := h1) (h₁ := show j - 1 < ys.length by omega) hnd).1 (by simpa [nth, h1, show j - 1 < ys.length by omega] using h2)
    omega
  · intro hnd
    refine Classical.byContradiction fun hno => hnd ?_
    have hlt : ys.Pairwise (· < ·) := by
      rw [List.pairwise_iff_getElem]
      have step : ∀ j (h : j + 1 < ys.length), ys[j] < ys[j + 1] := fun j h => by
        have h1 := (List.pairwise_iff_getElem.1 hs) j (j + 1) (by omega) h (by omega)
        have h2 : ys[j] ≠ ys[j + 1] := fun e => hno ⟨j + 1, by omega, h, by simp [nth, h, show j < ys.length by omega, e]⟩
        omega
      intro i j hi hj hij
      obtain ⟨d, rfl⟩ : ∃ d, j = i + 1 + d := ⟨j - i - 1, by omega⟩
      clear hij
      induction d with
      | zero => exact step i hj
      | succ d ih =>
        have a := ih (by omega)
        have b := step (i + 1 + d) hj
        have e : i + 1 + (d + 1) = i + 1 + d + 1 := by omega
        simp only [e]
        omega
    exact hlt.imp fun h => by omega
theorem nugB_iff (F : List Int) (c : Nat) : nugB F c = true ↔ (nth F (4 * c) = nth F (4 * c + 2) ∨ nth F (4 * c + 1) = nth F (4 * c + 3) ∨ nth F (4 * c) = nth F (4 * c + 1) ∨ nth F (4 * c + 1) = nth F (4 * c + 2) ∨ nth F (4 * c + 2) = nth F (4 * c + 3) ∨ nth F (4 * c + 3) = nth F (4 * c)) := by
  unfold nugB
  rw [decide_eq_true_iff]
  have h := srt_dup (xs := [nth F (4 * c), nth F (4 * c + 1), nth F (4 * c + 2), nth F (4 * c + 3)])
  simp only [List.length_cons, List.length_nil] at h
  rw [h]
  generalize nth F (4 * c) = a
  generalize nth F (4 * c + 1) = b
  generalize nth F (4 * c + 2) = d
  generalize nth F (4 * c + 3) = e
  simp only [List.nodup_cons, List.mem_cons, List.not_mem_nil, or_false, not_false_eq_true, List.nodup_nil, and_true]
  omega
def nugTo (F : List Int) (k : Nat) : List Nat := (List.range k).filter (nugB F)
theorem nugTo_yes {F : List Int} {k : Nat} (h : nugB F k = true) : nugTo F (k + 1) = nugTo F k ++ [k] := by
  unfold nugTo; rw [List.range_succ, List.filter_append]; simp [h]
theorem nugTo_no {F : List Int} {k : Nat} (h : nugB F k = false) : nugTo F (k + 1) = nugTo F k := by
  unfold nugTo; rw [List.range_succ, List.filter_append]; simp [h]
theorem nugTo_len (F : List Int) (k : Nat) : (nugTo F k).length ≤ k := by
  have := List.length_filter_le (nugB F) (List.range k)
  rwa [List.length_range] at this
/-- The nugatory crossings. -/
def nugL (S M : List Int) : List Nat := nugTo (leftL M S.length) S.length
end Go.Proofs.YtmjoijfafachhaaGreatDoor


namespace Go.Proofs.YtmjoijfafachhaaGreatDoor
open Go Go.RowKit
theorem uni_range {Sa Ma Sb Mb : List Int} {La Lb : Int} (hva : vldB Sa Ma La = true) (hvb : vldB Sb Mb Lb = true) (hn : Sa.length + Sb.length ≤ 64) : ∀ h, h < 4 * (Sa.length + Sb.length) → 0 ≤ nth (uniM Ma Mb) h ∧ nth (uniM Ma Mb) h < 4 * ((Sa.length + Sb.length : Nat) : Int) := fun h hh => by
  have hs := uni_shape hva hvb hn (Int.le_refl 0) (by omega)
  have := hs.range h (by rw [List.length_append]; exact hh)
  rw [List.length_append] at this
  exact this
set_option maxRecDepth 100000 in
set_option maxHeartbeats 2000000 in
theorem sum_yes (Sa Ma Sb Mb : List Int) (La Lb : Int) (aSa aMa aSb aMb : Option Addr) (cSa cMa cSb cMb : Nat) (x y : Nat) (w : World) (hva : vldB Sa Ma La = true) (hvb : vldB Sb Mb Lb = true) (hx : x < 4 * Sa.length) (hy : y < 4 * Sb.length) (hox : outB Sa x = true) (hoy : outB Sb y = true) (hn : Sa.length + Sb.length ≤ 64) (hL : La + Lb ≤ 64) (h1 : IntsAt w aSa Sa) (h2 : IntsAt w aMa Ma) (h3 : IntsAt w aSb Sb) (h4 : IntsAt w aMb Mb) :
    Calls Tryz.prog 10 #[.agg #[.slice aSa Sa.length cSa, .slice aMa Ma.length cMa, .int .i64 La], .int .i64 (x : Int), .agg #[.slice aSb Sb.length cSb, .slice aMb Mb.length cMb, .int .i64 Lb], .int .i64 (y : Int)] w fun e w' => ∃ a b c d, e = .returned (.tuple #[.agg #[.slice a (Sa.length + Sb.length) c, .slice b (Ma.length + Mb.length) d, .int .i64 (La + Lb)], .int .i64 0]) ∧ Own w' w.heap.size 3 a c (ints (Sa ++ Sb)) ∧ Own w' w.heap.size 3 b d (ints (crossL (uniM Ma Mb) x (Ma.length + y))) ∧ Below w.heap.size w w' := by
  have hsa := vldB_shape hva
  have hsb := vldB_shape hvb
  have hla := hsa.lo
  have hlb := hsb.lo
  have hma := hsa.len
  have hmb := hsb.len
  have HVa : Hid (∀ W', Below w.heap.size w W' → Calls Tryz.prog 15 #[.agg #[.slice aSa Sa.length cSa, .slice aMa Ma.length cMa, .int .i64 La]] W' fun e w' => e = .returned (.bool true) ∧ Below W'.heap.size W' w') := Lib.hid fun W' h => by
    have g := valid_any Sa Ma La aSa aMa cSa cMa W' (by omega) (by omega) (h1.later h) (h2.later h)
    rw [hva] at g; exact g
  have HVb : Hid (∀ W', Below w.heap.size w W' → Calls Tryz.prog 15 #[.agg #[.slice aSb Sb.length cSb, .slice aMb Mb.length cMb, .int .i64 Lb]] W' fun e w' => e = .returned (.bool true) ∧ Below W'.heap.size W' w') := Lib.hid fun W' h => by
    have g := valid_any Sb Mb Lb aSb aMb cSb cMb W' (by omega) (by omega) (h3.later h) (h4.later h)
    rw [hvb] at g; exact g
  have HEa : Hid (∀ W', Below w.heap.size w W' → Calls Tryz.prog 20 #[.agg #[.slice aSa Sa.length cSa, .slice aMa Ma.length cMa, .int .i64 La], .int .i64 (x : Int)] W' fun e w' => e = .returned (.bool true) ∧ Below W'.heap.size W' w') := Lib.hid fun W' h => by
    have g := end_any Sa Ma La aSa aMa cSa cMa (x : Int) W' (by omega) hma (h1.later h)
    rw [placeB_at hx, hox] at g; exact g
  have HEb : Hid (∀ W', Below w.heap.size w W' → Calls Tryz.prog 20 #[.agg #[.slice aSb Sb.length cSb, .slice aMb Mb.length cMb, .int .i64 Lb], .int .i64 (y : Int)] W' fun e w' => e = .returned (.bool true) ∧ Below W'.heap.size W' w') := Lib.hid fun W' h => by
    have g := end_any Sb Mb Lb aSb aMb cSb cMb (y : Int) W' (by omega) hmb (h3.later h)
    rw [placeB_at hy, hoy] at g; exact g
  have HB : Hid (∀ W', Below w.heap.size w W' → Calls Tryz.prog 21 #[.agg #[.slice aSa Sa.length cSa, .slice aMa Ma.length cMa, .int .i64 La], .agg #[.slice aSb Sb.length cSb, .slice aMb Mb.length cMb, .int .i64 Lb], .int .i64 (La + Lb)] W' fun e w' => ∃ a b c d, e = .returned (.tuple #[.agg #[.slice a (Sa.length + Sb.length) c, .slice b (Ma.length + Mb.length) d, .int .i64 (La + Lb)], .int .i64 0]) ∧ Own w' W'.heap.size 3 a c (ints (Sa ++ Sb)) ∧ Own w' W'.heap.size 3 b d (ints (uniM Ma Mb)) ∧ (∀ p q, a = some p → b = some q → p.block ≠ q.block) ∧ Below W'.heap.size W' w') := Lib.hid fun W' h =>
    beside_yes Sa Ma Sb Mb La Lb (La + Lb) aSa aMa aSb aMb cSa cMa cSb cMb W' hn hL (by omega) (by omega) (fun k hk => by have := hsb.range k (by omega); omega) (h1.later h) (h2.later h) (h3.later h) (h4.later h)
  have hur := uni_range hva hvb hn
  have hul : (uniM Ma Mb).length = Ma.length + Mb.length := uniM_len _ _
  have HC : Hid (∀ (A : Option Addr) (c B : Nat) (W' : World), Own W' B 3 A c (ints (uniM Ma Mb)) → Calls Tryz.prog 22 #[.slice A (Ma.length + Mb.length) c, .int .i64 (x : Int), .int .i64 ((Ma.length + y : Nat) : Int)] W' fun e w' => e = .returned (.tuple #[]) ∧ Own w' B 3 A c (ints (crossL (uniM Ma Mb) x (Ma.length + y))) ∧ Turned W' w' A) := Lib.hid fun A c B W' ho => by
    have g := cross_any (uniM Ma Mb) A c B x (Ma.length + y) W' (by omega) (by omega) (by omega) (by have := hur x (by omega); omega) (by have := hur (Ma.length + y) (by omega); omega) ho
    rw [hul] at g; exact g
  have H0 := Lib.hid ((((HH.start w).alloc #[.slice aSa Sa.length cSa, .slice aMa Ma.length cMa, .int .i64 La] 24 rfl rfl).alloc #[.slice aSb Sb.length cSb, .slice aMb Mb.length cMb, .int .i64 Lb] 24 (b := w.heap.size + 1) (by simp) rfl).alloc #[.slice none 0 0, .slice none 0 0, .int .i64 0] 24 (b := w.heap.size + 2) (by simp) rfl)
  have hx255 : (x : Int) ≤ 255 := by omega
  have hy255 : (y : Int) ≤ 255 := by omega
  have hma255 : Ma.length ≤ 256 := by omega
  have e1 : ((x : Int) == -1) = false := by rw [beq_eq_false_iff_ne]; omega
  have e2 : ((y : Int) == -1) = false := by rw [beq_eq_false_iff_ne]; omega
  have hlah := hsa.hi
  have hlbh := hsb.hi
  have hwL : wrap64 (La + Lb) = La + Lb := wrap_mid (by omega) (by omega)
  have HN : Hid ((Ma.length : Int) + (y : Int) = ((Ma.length + y : Nat) : Int)) := Lib.hid (by omega)
  clear hsa hsb hva hvb hx hy hox hoy h1 h2 h3 h4 hur hul hma hmb
  generalize hU : crossL (uniM Ma Mb) x (Ma.length + y) = U at *
  clear hU
  generalize uniM Ma Mb = V at *
  generalize Sa ++ Sb = T at *
  generalize hix : Ma.length + y = ix at *
  clear hix
  generalize Sa.length = na at *
  generalize Sb.length = nb at *
  generalize Ma.length = ma at *
  generalize Mb.length = mb at *
  go_enter Tryz.func10, Tryz.ntmps10
  go_wp2_with fail
  refine (HVa.out _ H0.out.below).mono ?_
  rintro e w1 ⟨rfl, hb⟩
  have H1 := Lib.hid (H0.out.call hb)
  clear hb H0 HVa
  have k00 := H1.out.cell (k := 0) (i := 0) rfl rfl
  have k01 := H1.out.cell (k := 0) (i := 1) rfl rfl
  have k02 := H1.out.cell (k := 0) (i := 2) rfl rfl
  have k10 := H1.out.cell (k := 1) (i := 0) rfl rfl
  have k11 := H1.out.cell (k := 1) (i := 1) rfl rfl
  have k12 := H1.out.cell (k := 1) (i := 2) rfl rfl
  go_wp2_with fail
  clear k00 k01 k02 k10 k11 k12
  refine (HVb.out _ H1.out.below).mono ?_
  rintro e w2 ⟨rfl, hb⟩
  have H2 := Lib.hid (H1.out.call hb)
  clear hb H1 HVb
  have k00 := H2.out.cell (k := 0) (i := 0) rfl rfl
  have k01 := H2.out.cell (k := 0) (i := 1) rfl rfl
  have k02 := H2.out.cell (k := 0) (i := 2) rfl rfl
  have k10 := H2.out.cell (k := 1) (i := 0) rfl rfl
  have k11 := H2.out.cell (k := 1) (i := 1) rfl rfl
  have k12 := H2.out.cell (k := 1) (i := 2) rfl rfl
  go_wp2_with fail
  clear k00 k01 k02 k10 k11 k12
  refine (HEa.out _ H2.out.below).mono ?_
  rintro e w3 ⟨rfl, hb⟩
  have H3 := Lib.hid (H2.out.call hb)
  clear hb H2 HEa
  have k00 := H3.out.cell (k := 0) (i := 0) rfl rfl
  have k01 := H3.out.cell (k := 0) (i := 1) rfl rfl
  have k02 := H3.out.cell (k := 0) (i := 2) rfl rfl
  have k10 := H3.out.cell (k := 1) (i := 0) rfl rfl
  have k11 := H3.out.cell (k := 1) (i := 1) rfl rfl
  have k12 := H3.out.cell (k := 1) (i := 2) rfl rfl
  go_wp2_with fail
  clear k00 k01 k02 k10 k11 k12
  refine (HEb.out _ H3.out.below).mono ?_
  rintro e w4 ⟨rfl, hb⟩
  have H4 := Lib.hid (H3.out.call hb)
  clear hb H3 HEb
  have k00 := H4.out.cell (k := 0) (i := 0) rfl rfl
  have k01 := H4.out.cell (k := 0) (i := 1) rfl rfl
  have k02 := H4.out.cell (k := 0) (i := 2) rfl rfl
  have k10 := H4.out.cell (k := 1) (i := 0) rfl rfl
  have k11 := H4.out.cell (k := 1) (i := 1) rfl rfl
  have k12 := H4.out.cell (k := 1) (i := 2) rfl rfl
  go_wp2_with fail
  clear k00 k01 k02 k10 k11 k12
  refine (HB.out _ H4.out.below).mono ?_
  rintro e w5 ⟨a5, b5, c5, d5, rfl, ho1, ho2, hne, hb⟩
  have H5 : Hid (HH w w5 [(w.heap.size, rowO 24 [.slice aSa na cSa, .slice aMa ma cMa, .int .i64 La]), (w.heap.size + 1, rowO 24 [.slice aSb nb cSb, .slice aMb mb cMb, .int .i64 Lb]), (w.heap.size + 2, rowO 24 [.slice none 0 0, .slice none 0 0, .int .i64 0])] [⟨a5, c5, 3, ints T⟩, ⟨b5, d5, 3, ints V⟩]) := Lib.hid (by
    have g := H4.out.call hb
    have hsz := H4.out.below.size
    exact ⟨g.below, g.blk, (fun z hz => by
      simp only [List.mem_cons, List.not_mem_nil, or_false] at hz
      rcases hz with rfl | rfl
      · exact ho1.mono hsz
      · exact ho2.mono hsz), g.nd1, by
      simp only [List.pairwise_cons, List.mem_cons, List.not_mem_nil, or_false, forall_eq, false_imp_iff, implies_true, List.Pairwise.nil, and_true]
      exact hne, fun z hz u hu q hq => by
      have hlt := H4.out.lt hz
      simp only [List.mem_cons, List.not_mem_nil, or_false] at hu
      rcases hu with rfl | rfl
      · have := (ho1.lt hq).1; omega
      · have := (ho2.lt hq).1; omega⟩)
  clear ho1 ho2 hne hb H4 HB
  have H6 := Lib.hid (H5.out.alloc #[.slice a5 (na + nb) c5, .slice b5 (ma + mb) d5, .int .i64 (La + Lb)] 24 rfl rfl)
  have k00 := H6.out.cell (k := 0) (i := 0) rfl rfl
  have k01 := H6.out.cell (k := 0) (i := 1) rfl rfl
  have k02 := H6.out.cell (k := 0) (i := 2) rfl rfl
  have k30 := H6.out.cell (k := 3) (i := 0) rfl rfl
  have k31 := H6.out.cell (k := 3) (i := 1) rfl rfl
  have k32 := H6.out.cell (k := 3) (i := 2) rfl rfl
  go_wp2_with fail
  clear k00 k01 k02 k30 k31 k32
  rw [HN.out]
  refine (HC.out b5 d5 w.heap.size _ (H6.out.sl (k := 1) rfl)).mono ?_
  rintro e w7 ⟨rfl, ho, ht⟩
  have H7 := Lib.hid (H6.out.grow (k := 1) rfl ho ht (fun x hx => .inr ⟨x, hx, rfl⟩))
  clear ho ht H6 H5
  have k30 := H7.out.cell (k := 3) (i := 0) rfl rfl
  have k31 := H7.out.cell (k := 3) (i := 1) rfl rfl
  have k32 := H7.out.cell (k := 3) (i := 2) rfl rfl
  have k20 := H7.out.cell (k := 2) (i := 0) rfl rfl
  have k21 := H7.out.cell (k := 2) (i := 1) rfl rfl
  have k22 := H7.out.cell (k := 2) (i := 2) rfl rfl
  have f0 := H7.out.frozen (k := 2) rfl 0
  have f1 := H7.out.frozen (k := 2) rfl 1
  have f2 := H7.out.frozen (k := 2) rfl 2
  have H9 := ((H7.out.set (k := 2) rfl 0 (.slice a5 (na + nb) c5)).set (k := 2) rfl 1 (.slice b5 (ma + mb) d5)).set (k := 2) rfl 2 (.int .i64 (La + Lb))
  have hF0 := H9.cell (k := 2) (i := 0) rfl rfl
  have hF1 := H9.cell (k := 2) (i := 1) rfl rfl
  have hF2 := H9.cell (k := 2) (i := 2) rfl rfl
  have Hfin := Lib.hid H9
  clear H9
  go_wp2_with fail
  refine bodyPost_ret (v := .tuple #[.agg #[.slice a5 (na + nb) c5, .slice b5 (ma + mb) d5, .int .i64 (La + Lb)], .int .i64 0]) (by simp [results, Tryz.results10, go_sem, hF0, hF1, hF2]) rfl ?_
  exact ⟨_, _, _, _, rfl, Hfin.out.sl (k := 0) rfl, Hfin.out.sl (k := 1) rfl, Hfin.out.below⟩
end Go.Proofs.YtmjoijfafachhaaGreatDoor


