/- canon.pieces: the pieces of a valid diagram, sorted. Plain: the code of a diagram; sorted lists of codes; the union of the parts. DERIVED: THE SHELF's CONTRACTS AT THIS DUMP, IN PLAIN WORDS (tools/lay-plain.mjs out of 'TrydShelf.lean', which tools/lay-shelf.mjs wrote): THE SAME DECLARATIONS UNDER THE SAME NAMES: 'import', 'namespace', 'open', 'def', 'theorem' AND NOTHING ELSE: no command of the shelf's: FOR A HAND-IN. Each laying: the table of numbers ('.._ren') and one theorem, a field a fact of the dump's own or the kernel's comparison; each contract: ONE APPLICATION. slices.Sort on a slice of the call's own. slices.Grow of nil, slices.Concat. The walks of slices.Clone and diagram.Clone. -/
import Derived.WalkKit
import Derived.WalkSpells
import Derived.WalkLawsBesides
import Derived.Deep.AppendSrc
import Derived.Deep.LoopGhost
import Derived.Deep.QuietTactic
import Derived.Deep.RegionWith
import Derived.Deep.DeepMust
import Derived.Deep.DeepFit
import Derived.BigQuiet
import Derived.Lib.Hide
import Derived.Outline
import Derived.Test.YtmhhjchnjaefhaaDoorProg
import Derived.Deep.Matrix
import Derived.Deep.DeepCutAuto
import Derived.Deep.RegionLaw
import Derived.Deep.RegionHeld3
import Derived.Lib.SliceRun
import Derived.Shelf.Strings.Builder1
import Derived.Shelf.Small.Wraps
import Derived.Shelf.Strings.BuilderF
import Derived.Shelf.Strings.BuilderK
import Derived.Shelf.Strconv.Itoa0
import Derived.Shelf.Strconv.Itoa1
import Derived.Shelf.LaysM
import Derived.Shelf.Strconv.Itoa2
import Derived.Shelf.Strconv.Itoa3
import Derived.Shelf.Slices.Equal
import Derived.Ground.Names2Prog
import Derived.Shelf.Slices.Clone
import Derived.Shelf.Slices.SearchI
import Derived.Shelf.Slices.Empties2
import Derived.Ground.SlgnProg
import Derived.Shelf.SlicesE.Clone
import Derived.Sort.OwnSortedInts
import Derived.Shelf.Small.Bits
import Derived.Shelf.Sort.Plain
import Derived.Shelf.Slices.Turned
import Derived.Shelf.Slices.CompactI
import Derived.Shelf.Slices.Cells
import Derived.Shelf.Slices.In.SortNone
import Derived.Lib.AppendZeros
import Derived.Deep.RegionHeld
import Derived.Test.YtmhhjchnjaefhaaDoorWAa
import Derived.Test.YtmhhjchnjaefhaaDoorWAb
import Derived.Test.YtmhhjchnjaefhaaDoorWAc
import Derived.Test.YtmhhjchnjaefhaaDoorWAd
import Derived.Test.YtmhhjchnjaefhaaDoorWAe
import Derived.Test.YtmhhjchnjaefhaaDoorWAf
import Derived.Test.YtmhhjchnjaefhaaDoorWAg
import Derived.Test.YtmhhjchnjaefhaaDoorWAh
import Derived.Test.YtmhhjchnjaefhaaDoorWAi
import Derived.Test.YtmhhjchnjaefhaaDoorWAj
import Derived.Test.YtmhhjchnjaefhaaDoorWAk
import Derived.Test.YtmhhjchnjaefhaaDoorWAl
namespace Go.Proofs.YtmhhjchnjaefhaaDoor
open Go Go.RowKit
/-- One cell of a box is written; all else stays. -/
theorem HH.put1 {w0 w : World} {y : Nat × (Obj → Prop)} {s : List SlO} {q : Nat} {vs0 : List Value} (h : HH w0 w [y, (q, rowO 51 vs0)] s) (i : Nat) (u : Value) :
    HH w0 (w.setCell ⟨q, i, none⟩ u) [y, (q, rowO 51 (vs0.set i u))] s ∧
    (∀ (B0 : Nat) (a : Option Addr) (xs : List Int), B0 ≤ w0.heap.size → TI w B0 a xs → TI (w.setCell ⟨q, i, none⟩ u) B0 a xs) ∧
    (∀ (B0 : Nat) (vs : List Value) (ds : List Dgm), B0 ≤ w0.heap.size → CellsOf w B0 vs ds → CellsOf (w.setCell ⟨q, i, none⟩ u) B0 vs ds) ∧
    (∀ (B : Nat) (a : Option Addr) (c : Nat) (xss : List (List Int)), OwnRows w B a c xss → OwnRows (w.setCell ⟨q, i, none⟩ u) B a c xss) := by
  have h1 := h.set (k := 1) rfl i u
  have hr := h.row (k := 1) rfl
  have ho := hr.own (h.obj (k := 1) rfl).1
  have t1 := turned_set w q 0 i u
  rw [Nat.zero_add] at t1
  exact ⟨h1, fun B0 a xs hB ht => ht.turned (by decide) hB ho t1, fun B0 vs ds hB hc => hc.turned (by decide) hB ho t1, fun B a c xss hx => hx.turned ho (by decide) (by decide) t1⟩
theorem nats_at (G : List Nat) {k : Nat} (h : k < G.length) : nth (nats G) k = ((G.getD k 0 : Nat) : Int) := by
  unfold nth nats
  rw [List.getD_eq_getElem?_getD, List.getD_eq_getElem?_getD, List.getElem?_map, List.getElem?_eq_getElem h]; rfl
theorem Own.tight {w : World} {B : Nat} {E : TypeId} {b off c : Nat} {vs : List Value} (h : Own w B E (some ⟨b, off, none⟩) c vs) : Own w b E (some ⟨b, off, none⟩) c vs := by
  rcases h with ⟨h, _⟩ | ⟨b', off', cur, he, _, h3⟩
  · cases h
  · cases he
    exact .inr ⟨b, off, cur, rfl, Nat.le_refl _, h3⟩
set_option maxRecDepth 100000 in
set_option maxHeartbeats 1000000 in
theorem cpieces_any (S M : List Int) (L : Int) (aS aM : Option Addr) (cS cM : Nat) (w : World) (hv : vldB S M L = true) (h20 : S.length ≤ 20) (hS : IntsAt w aS S) (hM : IntsAt w aM M) :
    Calls Tryd.prog 44 #[.agg #[.slice aS S.length cS, .slice aM M.length cM, .int .i64 L]] w fun e w' => ∃ A C ys vs, e = .returned (.slice A ys.length C) ∧ SrtTo ((grpOf M S.length).map (pieOf S M S.length)) ys ys.length ∧ Own w' w.heap.size 51 A (C * 3) vs ∧ CellsOf w' w.heap.size vs ys ∧ Below w.heap.size w w' := by
  have hs := vldB_shape hv
  have hm := hs.mates
  have HMT : Hid (∀ x, x < 4 * S.length → mt M x < 4 * S.length) := Lib.hid fun x hx => hs.mt_lt hx
  have HGr : Hid (∀ W', Below w.heap.size w W' → Calls Tryd.prog 36 #[.agg #[.slice aS S.length cS, .slice aM M.length cM, .int .i64 L]] W' fun e w' => ∃ a c, e = .returned (.slice a (grpOf M S.length).length c) ∧ OwnRows w' W'.heap.size a c ((grpOf M S.length).map nats) ∧ Below W'.heap.size W' w') := Lib.hid fun W' h => graph_any S M L aS aM cS cM W' hv (hS.later h) (hM.later h)
  have HF : Hid (∀ r, r < S.length → ∀ W', Below w.heap.size w W' → Calls Tryd.prog 66 #[.agg #[.slice aS S.length cS, .slice aM M.length cM, .int .i64 L], .int .i64 (r : Int), .slice none 0 0] W' fun e w' => ∃ A C A' C', e = .returned (.tuple #[.slice A' (codeL S M r S.length).length C', .slice A (ordL M r S.length).length C, .int .i64 (-1)]) ∧ Own w' W'.heap.size 3 A C (ints (nats (ordL M r S.length))) ∧ Own w' W'.heap.size 3 A' C' (ints (codeL S M r S.length)) ∧ Below W'.heap.size W' w') := Lib.hid fun r hr W' h => number_first S M L aS aM cS cM r W' hs hr (hS.later h) (hM.later h)
  have HNx : Hid (∀ r, r < S.length → ∀ (B : List Int) aB cB W', Below w.heap.size w W' → IntsAt W' aB B → B.length ≤ cB → B.length = 5 * (ordL M r S.length).length → Calls Tryd.prog 66 #[.agg #[.slice aS S.length cS, .slice aM M.length cM, .int .i64 L], .int .i64 (r : Int), .slice aB B.length cB] W' fun e w' => (0 < cmpL (codeL S M r S.length) B ∧ e = .returned (.tuple #[.slice none 0 0, .slice none 0 0, .int .i64 1]) ∧ Below W'.heap.size W' w') ∨ (cmpL (codeL S M r S.length) B ≤ 0 ∧ ∃ A C A' C', e = .returned (.tuple #[.slice A' (codeL S M r S.length).length C', .slice A (ordL M r S.length).length C, .int .i64 (cmpL (codeL S M r S.length) B)]) ∧ Own w' W'.heap.size 3 A C (ints (nats (ordL M r S.length))) ∧ Own w' W'.heap.size 3 A' C' (ints (codeL S M r S.length)) ∧ Below W'.heap.size W' w')) := Lib.hid fun r hr B aB cB W' h hB hc hl => number_next S M B L aS aM aB cS cM cB r W' hs hr (hS.later h) (hM.later h) hB hc hl
  have HGl : Hid (∀ i, i < (grpOf M S.length).length → 0 < ((grpOf M S.length).getD i []).length ∧ ((grpOf M S.length).getD i []).length ≤ 20 ∧ ∀ r, r ∈ (grpOf M S.length).getD i [] → r < S.length ∧ (ordL M r S.length).length = ((grpOf M S.length).getD i []).length) := Lib.hid fun i hi => by
    have hmem : (grpOf M S.length).getD i [] ∈ grpOf M S.length := by
      rw [List.getD_eq_getElem?_getD, List.getElem?_eq_getElem hi]; exact List.getElem_mem hi
    have hw := grp_whole hm hmem
    have h1 := hw.1.nd.length_le_of_subset (l₂ := List.range S.length) fun c hc => List.mem_range.2 (hw.1.lt c hc)
    rw [List.length_range] at h1
    exact ⟨hw.2, by omega, fun r hr => ⟨hw.1.lt r hr, ordL_len hm HMT.out hmem hr⟩⟩
  have hgl : (grpOf M S.length).length ≤ 20 := Nat.le_trans (grp_len M S.length) h20
  obtain ⟨i0, hi0, hz0, hz1, hz2⟩ := info_parts Tryd.info51
  have Hzc : Hid ((Value.agg #[.slice none 0 0, .slice none 0 0, .int .i64 0]).cells.size = 3) := Lib.hid rfl
  have H0 := Lib.hid ((HH.start w).alloc #[.slice aS S.length cS, .slice aM M.length cM, .int .i64 L] 24 rfl rfl)
  clear hs hm hv hS hM
  generalize grpOf M S.length = gs at *
  generalize hT : gs.map (pieOf S M S.length) = T at *
  have HT := Lib.hid hT
  clear hT
  generalize S.length = n at *
  generalize M.length = N at *
  go_enter Tryd.func44, Tryd.ntmps44
  go_wp2_with fail
  refine (HGr.out _ H0.out.below).mono ?_
  rintro e w2 ⟨aP, cP, rfl, ho, hb⟩
  have H2 := Lib.hid ((H0.out.call hb).addNil 51)
  have HO := Lib.hid ho
  clear hb ho HGr
  generalize (w.alloc (.cells #[.slice aS n cS, .slice aM N cM, .int .i64 L] 24)).heap.size = q at *
  go_wp2_with fail
  go_loopg [15, 3] gs.length (fun g v s3 wr => ∃ (i : Nat) (A : Option Addr) (C : Nat) (vs : List Value), i ≤ gs.length ∧ g = gs.length - i ∧ v = .int .i64 i ∧ s3 = .slice A i C ∧ i ≤ C ∧ OwnRows wr q aP cP (gs.map nats) ∧ CellsOf wr w.heap.size vs (T.take i) ∧ vs.length = i * 3 ∧ HH w wr [(w.heap.size, rowO 24 [.slice aS n cS, .slice aM N cM, .int .i64 L])] [⟨A, C * 3, 51, vs⟩])
  case atStart => exact ⟨0, none, 0, [], Nat.zero_le _, rfl, rfl, rfl, Nat.le_refl _, HO.out, CellsOf.nil _ _, rfl, H2.out⟩
  case round =>
    obtain ⟨i, A, C, vs, hi, rfl, rfl, rfl, hiC, ho, hc, hvl, hh⟩ := hrel
    replace HO := Lib.hid ho
    have HCl := Lib.hid hc
    have Hh := Lib.hid hh
    have Hvl := Lib.hid hvl
    clear ho hc hh H2 hvl
    by_cases hil : i < gs.length
    · obtain ⟨b1, o1, rfl, _, _, hrow⟩ := HO.out.open (by rw [List.length_map]; omega)
      obtain ⟨a', c', hci, hro⟩ := hrow i (nats (gs.getD i [])) (by rw [List.getElem?_map, getD_some (d := []) hil]; rfl)
      rw [nats_length] at hci
      have HG := Lib.hid (HGl.out i hil)
      have hg1 : 0 < (gs.getD i []).length := HG.out.1
      have hg2 : (gs.getD i []).length ≤ 20 := HG.out.2.1
      have HTi : Hid (T.take (i + 1) = T.take i ++ [pieOf S M n (gs.getD i [])]) := Lib.hid (by
        rw [List.take_add_one, ← HT.out, List.getElem?_map, getD_some (d := []) hil]; rfl)
      have HTr : Hid (TI wr w.heap.size a' (nats (gs.getD i []))) := Lib.hid (TI.own hro)
      generalize gs.getD i [] = Gi at *
      clear hrow hro
      have H3 := Lib.hid (Hh.out.alloc #[.slice none 0 0, .slice none 0 0, .int .i64 0] 51 (b := wr.heap.size) rfl rfl)
      have HX := Lib.hid (And.intro (HO.out.later ((Below.refl _ _).alloc (Nat.le_refl _) (.cells #[.slice none 0 0, .slice none 0 0, .int .i64 0] 51)) (Nat.le_refl _)) (And.intro (HCl.out.later ((Below.refl _ _).alloc (Nat.le_refl _) (.cells #[.slice none 0 0, .slice none 0 0, .int .i64 0] 51))) (HTr.out.later ((Below.refl _ _).alloc (Nat.le_refl _) (.cells #[.slice none 0 0, .slice none 0 0, .int .i64 0] 51)))))
      go_wp2_with fail
      clear Hh HO HCl HTr
      generalize wr.alloc (.cells #[.slice none 0 0, .slice none 0 0, .int .i64 0] 51) = v1 at *
      generalize wr.heap.size = bx at *
      go_loopg [21] Gi.length (fun g v ws => ∃ (k : Nat) (p : Dgm) (a b : Option Addr) (cA cB : Nat), k ≤ Gi.length ∧ g = Gi.length - k ∧ v = .int .i64 k ∧ Hid ((k = 0 → a = none ∧ cA = 0 ∧ p = ([], [], 0)) ∧ (0 < k → p.1.length = 5 * Gi.length ∧ p.1 ≠ [] ∧ p.1.length ≤ cA) ∧ p = (Gi.take k).foldl (pieStep S M n) ([], [], 0)) ∧ 0 ≤ p.2.2 ∧ p.2.2 ≤ (k : Int) ∧ Hid (TI ws w.heap.size a p.1 ∧ TI ws w.heap.size b p.2.1 ∧ TI ws w.heap.size a' (nats Gi) ∧ OwnRows ws q (some ⟨b1, o1, none⟩) cP (gs.map nats) ∧ CellsOf ws w.heap.size vs (T.take i)) ∧ HH w ws [(w.heap.size, rowO 24 [.slice aS n cS, .slice aM N cM, .int .i64 L]), (bx, rowO 51 [.slice a p.1.length cA, .slice b p.2.1.length cB, .int .i64 p.2.2])] [⟨A, C * 3, 51, vs⟩])
      case atStart => exact ⟨0, ([], [], 0), none, none, 0, 0, Nat.zero_le _, rfl, rfl, Lib.hid ⟨fun _ => ⟨rfl, rfl, rfl⟩, fun h => absurd h (Nat.lt_irrefl 0), rfl⟩, Int.le_refl _, Int.le_refl _, Lib.hid ⟨TI.nil _ _, TI.nil _ _, HX.out.2.2, HX.out.1, HX.out.2.1⟩, H3.out⟩
      case round =>
        obtain ⟨k, p, a, b, cA, cB, hk, rfl, rfl, HP, hp0, hpk, HR, hh⟩ := hrel
        have Hz := Lib.hid hh
        clear hh H3 HX
        by_cases hkl : k < Gi.length
        · obtain ⟨b9, o9, hb9, _, hc9⟩ := (HR.out.2.2.1).at.open (by rw [nats_length]; omega)
          subst hb9
          obtain ⟨r, hr⟩ : ∃ r : Nat, r = Gi.getD k 0 := ⟨_, rfl⟩
          have hrm : r ∈ Gi := by rw [hr]; exact getD_mem hkl
          have c9 : wr.cell? ⟨b9, o9 + k, none⟩ = some (.int .i64 (r : Int)) := by rw [hc9 k (by rw [nats_length]; exact hkl), nats_at Gi hkl, hr]
          have HG1 := Lib.hid (HG.out.2.2 r hrm)
          have HTk : Hid ((Gi.take (k + 1)).foldl (pieStep S M n) ([], [], 0) = pieStep S M n p r) := Lib.hid (by
            rw [List.take_add_one, List.foldl_append, ← HP.out.2.2, hr, List.getD_eq_getElem?_getD, List.getElem?_eq_getElem hkl]; rfl)
          have HX1 : Hid ((codeL S M r n).length = 5 * Gi.length ∧ codeL S M r n ≠ []) := Lib.hid ⟨by rw [codeL_len, HG1.out.2], codeL_ne _ _ _ _⟩
          have HF1 := Lib.hid (HF.out r HG1.out.1)
          have HN1 := Lib.hid (HNx.out r HG1.out.1)
          have hz1 := Hz.out.cell (k := 0) (i := 0) rfl rfl
          have hz2 := Hz.out.cell (k := 0) (i := 1) rfl rfl
          have hz3 := Hz.out.cell (k := 0) (i := 2) rfl rfl
          clear hc9 hr hrm
          have HO1 : Hid ((ordL M r n).length = Gi.length) := Lib.hid HG1.out.2
          have HS1 : Hid (∀ p : Dgm, pieStep S M n p r = if p.1 = [] then (codeL S M r n, nats (ordL M r n), 1) else if cmpL (codeL S M r n) p.1 < 0 then (codeL S M r n, nats (ordL M r n), 1) else if cmpL (codeL S M r n) p.1 = 0 then (p.1, p.2.1, p.2.2 + 1) else p) := Lib.hid fun p => rfl
          clear HG1
          generalize codeL S M r n = X at *
          generalize ordL M r n = O at *
          by_cases hk0 : k = 0
          · obtain ⟨rfl, rfl, rfl⟩ := HP.out.1 hk0
            subst hk0
            rw [Nat.add_zero] at c9
            have hy1 : wr.cell? ⟨bx, 0, none⟩ = some (.slice none 0 0) := Hz.out.cell (k := 1) (i := 0) rfl rfl
            go_wp2_with fail
            clear hz1 hz2 hz3 hy1
            refine (HF1.out _ Hz.out.below).mono ?_
            rintro e w5 ⟨A5, C5, A6, C6, rfl, ho1, ho2, hb⟩
            have H5 := Lib.hid (Hz.out.call hb)
            have HO5 := Lib.hid (And.intro ho1 ho2)
            have HR5 := Lib.hid (And.intro (HR.out.2.2.1.later hb) (And.intro (HR.out.2.2.2.1.later hb (Nat.le_refl _)) (HR.out.2.2.2.2.later hb)))
            clear ho1 ho2 hb HR
            have f0 := H5.out.frozen (k := 1) rfl 0
            have f1 := H5.out.frozen (k := 1) rfl 1
            have f2 := H5.out.frozen (k := 1) rfl 2
            have y0 : w5.cell? ⟨bx, 0, none⟩ = some (.slice none 0 0) := H5.out.cell (k := 1) (i := 0) rfl rfl
            have y1 : w5.cell? ⟨bx, 1, none⟩ = some (.slice b 0 cB) := H5.out.cell (k := 1) (i := 1) rfl rfl
            have y2 : w5.cell? ⟨bx, 2, none⟩ = some (.int .i64 0) := H5.out.cell (k := 1) (i := 2) rfl rfl
            go_wp2_with fail
            have P := Lib.hid (H5.out.put3 (.slice A6 X.length C6) (.slice A5 O.length C5) (.int .i64 1))
            go_roundg (Gi.length - (0 + 1))
            case measure => omega
            case rel =>
              refine ⟨0 + 1, (X, nats O, 1), A6, A5, C6, C5, by omega, rfl, by go_num, Lib.hid ⟨fun h => absurd h (by omega), fun _ => ⟨HX1.out.1, HX1.out.2, by have := HO5.out.2.cap; rwa [ints_length] at this⟩, by rw [HTk.out, HS1.out]; rfl⟩, (show (0 : Int) ≤ 1 by decide), (show (1 : Int) ≤ ((0 + 1 : Nat) : Int) by decide), Lib.hid ⟨P.out.2.1 _ _ _ (Nat.le_refl _) (TI.own HO5.out.2), P.out.2.1 _ _ _ (Nat.le_refl _) (TI.own HO5.out.1), P.out.2.1 _ _ _ (Nat.le_refl _) HR5.out.1, P.out.2.2.2 _ _ _ _ HR5.out.2.1, P.out.2.2.1 _ _ _ (Nat.le_refl _) HR5.out.2.2⟩, ?_⟩
              show HH w _ [_, (bx, rowO 51 [.slice A6 X.length C6, .slice A5 (nats O).length C5, .int .i64 1])] _
              rw [nats_length]
              exact P.out.1
          · obtain ⟨pc, po, pr⟩ := p
            have HQ := Lib.hid (HP.out.2.1 (by omega))
            dsimp only at *
            have hy1 := Hz.out.cell (k := 1) (i := 0) rfl rfl
            go_wp2_with fail
            clear hz1 hz2 hz3 hy1
            refine (HN1.out pc a cA _ Hz.out.below HR.out.1.at HQ.out.2.2 (by rw [HO1.out]; exact HQ.out.1)).mono ?_
            rintro e w5 (⟨hgt, rfl, hb⟩ | ⟨hle, A5, C5, A6, C6, rfl, ho1, ho2, hb⟩)
            · have H5 := Lib.hid (Hz.out.call hb)
              have HR5 := Lib.hid (And.intro (HR.out.1.later hb) (And.intro (HR.out.2.1.later hb) (And.intro (HR.out.2.2.1.later hb) (And.intro (HR.out.2.2.2.1.later hb (Nat.le_refl _)) (HR.out.2.2.2.2.later hb)))))
              have HE : Hid (pieStep S M n (pc, po, pr) r = (pc, po, pr)) := Lib.hid (by rw [HS1.out, if_neg HQ.out.2.1, if_neg (by show ¬ cmpL X pc < 0; omega), if_neg (by show ¬ cmpL X pc = 0; omega)])
              clear hb HR hgt
              go_wp2_with fail
              go_roundg (Gi.length - (k + 1))
              case measure => omega
              case rel =>
                exact ⟨k + 1, (pc, po, pr), a, b, cA, cB, by omega, rfl, by go_num, Lib.hid ⟨fun h => absurd h (by omega), fun _ => HQ.out, by rw [HTk.out, HE.out]⟩, hp0, (show pr ≤ ((k + 1 : Nat) : Int) by omega), HR5, H5.out⟩
            · have H5 := Lib.hid (Hz.out.call hb)
              have HO5 := Lib.hid (And.intro ho1 ho2)
              have HR5 := Lib.hid (And.intro (HR.out.1.later hb) (And.intro (HR.out.2.1.later hb) (And.intro (HR.out.2.2.1.later hb) (And.intro (HR.out.2.2.2.1.later hb (Nat.le_refl _)) (HR.out.2.2.2.2.later hb)))))
              clear ho1 ho2 hb HR
              have f0 := H5.out.frozen (k := 1) rfl 0
              have f1 := H5.out.frozen (k := 1) rfl 1
              have f2 := H5.out.frozen (k := 1) rfl 2
              have y0 := H5.out.cell (k := 1) (i := 0) rfl rfl
              have y1 := H5.out.cell (k := 1) (i := 1) rfl rfl
              have y2 := H5.out.cell (k := 1) (i := 2) rfl rfl
              rcases cmpL_vals X pc with hv | hv | hv
              · have HE : Hid (pieStep S M n (pc, po, pr) r = (X, nats O, 1)) := Lib.hid (by rw [HS1.out, if_neg HQ.out.2.1, if_pos (by show cmpL X pc < 0; omega)])
                rw [hv]
                clear hv hle
                go_wp2_with fail
                have P := Lib.hid (H5.out.put3 (.slice A6 X.length C6) (.slice A5 O.length C5) (.int .i64 1))
                go_roundg (Gi.length - (k + 1))
                case measure => omega
                case rel =>
                  refine ⟨k + 1, (X, nats O, 1), A6, A5, C6, C5, by omega, rfl, by go_num, Lib.hid ⟨fun h => absurd h (by omega), fun _ => ⟨HX1.out.1, HX1.out.2, by have := HO5.out.2.cap; rwa [ints_length] at this⟩, by rw [HTk.out, HE.out]⟩, (show (0 : Int) ≤ 1 by decide), (show (1 : Int) ≤ ((k + 1 : Nat) : Int) by omega), Lib.hid ⟨P.out.2.1 _ _ _ (Nat.le_refl _) (TI.own HO5.out.2), P.out.2.1 _ _ _ (Nat.le_refl _) (TI.own HO5.out.1), P.out.2.1 _ _ _ (Nat.le_refl _) HR5.out.2.2.1, P.out.2.2.2 _ _ _ _ HR5.out.2.2.2.1, P.out.2.2.1 _ _ _ (Nat.le_refl _) HR5.out.2.2.2.2⟩, ?_⟩
                  show HH w _ [_, (bx, rowO 51 [.slice A6 X.length C6, .slice A5 (nats O).length C5, .int .i64 1])] _
                  rw [nats_length]
                  exact P.out.1
              · have HE : Hid (pieStep S M n (pc, po, pr) r = (pc, po, pr + 1)) := Lib.hid (by rw [HS1.out, if_neg HQ.out.2.1, if_neg (by show ¬ cmpL X pc < 0; omega), if_pos (by show cmpL X pc = 0; omega)])
                rw [hv]
                clear hv hle
                have wr1 : IntKind.i64.wrap (pr + 1) = pr + 1 := wrapi_mid (by omega) (by omega)
                go_wp2_with fail
                have P := Lib.hid (H5.out.put1 2 (.int .i64 (pr + 1)))
                go_roundg (Gi.length - (k + 1))
                case measure => omega
                case rel =>
                  exact ⟨k + 1, (pc, po, pr + 1), a, b, cA, cB, by omega, rfl, by go_num, Lib.hid ⟨fun h => absurd h (by omega), fun _ => HQ.out, by rw [HTk.out, HE.out]⟩, (show (0 : Int) ≤ pr + 1 by omega), (show pr + 1 ≤ ((k + 1 : Nat) : Int) by omega), Lib.hid ⟨P.out.2.1 _ _ _ (Nat.le_refl _) HR5.out.1, P.out.2.1 _ _ _ (Nat.le_refl _) HR5.out.2.1, P.out.2.1 _ _ _ (Nat.le_refl _) HR5.out.2.2.1, P.out.2.2.2 _ _ _ _ HR5.out.2.2.2.1, P.out.2.2.1 _ _ _ (Nat.le_refl _) HR5.out.2.2.2.2⟩, P.out.1⟩
              · omega
        · obtain rfl : k = Gi.length := by omega
          have HE : Hid (T.take (i + 1) = T.take i ++ [p]) := Lib.hid (by rw [HTi.out, HP.out.2.2, List.take_length]; rfl)
          clear HP HTi
          obtain ⟨pc, po, pr⟩ := p
          dsimp only at *
          have HC3 : Hid (CellsOf wr w.heap.size (vs ++ [.slice a pc.length cA, .slice b po.length cB, .int .i64 pr]) (T.take (i + 1))) := Lib.hid (by
            rw [HE.out]
            exact HR.out.2.2.2.2.append (CellsOf.one HR.out.1 HR.out.2.1))
          have HO3 := Lib.hid HR.out.2.2.2.1
          clear HR HE
          generalize pc.length = l1 at *
          generalize po.length = l2 at *
          have y0 := Hz.out.cell (k := 1) (i := 0) rfl rfl
          have y1 := Hz.out.cell (k := 1) (i := 1) rfl rfl
          have y2 := Hz.out.cell (k := 1) (i := 2) rfl rfl
          have Ha := Lib.hid (Hz.out.call ((Below.refl _ _).alloc (Nat.le_refl _) (.cells #[.slice a l1 cA, .slice b l2 cB, .int .i64 pr] 51)))
          have Hus : Hid (VAt (wr.alloc (.cells #[.slice a l1 cA, .slice b l2 cB, .int .i64 pr] 51)) (some ⟨wr.heap.size, 0, none⟩) [.slice a l1 cA, .slice b l2 cB, .int .i64 pr]) := Lib.hid (Row.new wr #[.slice a l1 cA, .slice b l2 cB, .int .i64 pr] 51).at
          have Hu1 : Hid (∀ u ∈ ([.slice a l1 cA, .slice b l2 cB, .int .i64 pr] : List Value), u.oneCell' = true) := Lib.hid (by
            intro u hu
            simp only [List.mem_cons, List.not_mem_nil, or_false] at hu
            rcases hu with rfl | rfl | rfl <;> rfl)
          have Hl1 := Lib.hid Ha.out.below.size
          have Hum : Hid (([.slice a l1 cA, .slice b l2 cB, .int .i64 pr] : List Value).length = 1 * 3) := Lib.hid rfl
          go_wp2_with (with_reducible refine wpList_append_wide rfl (.tmp 48) (.tmp 50) 48 48 rfl w.heap.size 51 i0 _ 56 3 Tryd.underlying48 Tryd.underlying48 hi0 hz0 hz1 (by decide) hz2 Hzc.out A i C vs rfl Hvl.out hiC (Ha.out.sl (k := 0) rfl) (some ⟨wr.heap.size, 0, none⟩) 1 1 [.slice a l1 cA, .slice b l2 cB, .int .i64 pr] rfl Hum.out Hus.out Hu1.out (by omega) (by omega) Hl1.out ?_; intro A7 e7 w7 hle hO7 hT7 hA7; have HO7a := Lib.hid hO7; have HT7a := Lib.hid hT7; have HA7a := Lib.hid hA7; clear hO7 hT7 hA7)
          have H7 := Lib.hid (Ha.out.grow (k := 0) rfl HO7a.out HT7a.out HA7a.out)
          have HO7 := Lib.hid ((HO3.out.later ((Below.refl _ _).alloc (Nat.le_refl _) _) (Nat.le_refl _)).turned (Ha.out.sl (k := 0) rfl) (show (51 : TypeId) ≠ 3 from by decide) (show (51 : TypeId) ≠ 22 from by decide) HT7a.out)
          have HC7 : Hid (CellsOf w7 w.heap.size (vs ++ [.slice a l1 cA, .slice b l2 cB, .int .i64 pr]) (T.take (i + 1))) := Lib.hid ((HC3.out.later ((Below.refl _ _).alloc (Nat.le_refl _) _)).turned (show (51 : TypeId) ≠ 3 from by decide) (Nat.le_refl _) (Ha.out.sl (k := 0) rfl) HT7a.out)
          go_roundg (gs.length - (i + 1))
          case measure => omega
          case rel =>
            refine ⟨i + 1, A7, e7, _, by omega, rfl, by go_num, rfl, hle, HO7.out, HC7.out, ?_, H7.out.forgetK (List.Sublist.cons_cons _ (List.nil_sublist _))⟩
            rw [List.length_append, Hvl.out]; show i * 3 + 3 = (i + 1) * 3; omega
    · obtain rfl : i = gs.length := by omega
      have HTl : Hid (T.length = gs.length) := Lib.hid (by rw [← HT.out, List.length_map])
      have HC0 : Hid (CellsOf wr w.heap.size vs T) := Lib.hid (by
        have g := HCl.out
        rwa [List.take_of_length_le (by rw [HTl.out]; exact Nat.le_refl _)] at g)
      have Hbd : Hid (∀ d, d ∈ T → d.1.length ≤ 1000000 ∧ d.2.1.length ≤ 1000000) := Lib.hid fun d hd => by
        rw [← HT.out] at hd
        obtain ⟨G, hG, rfl⟩ := List.mem_map.1 hd
        obtain ⟨j, hj, e⟩ := List.mem_iff_getElem.1 hG
        have g := HGl.out j hj
        rw [List.getD_eq_getElem?_getD, List.getElem?_eq_getElem hj, Option.getD_some, e] at g
        have hp := pie_is S M n g.1
        obtain ⟨r, hr, e1, e2⟩ := hp.at_
        have := g.2.2 r hr
        rw [e1, e2, codeL_len, nats_length]; omega
      clear HCl HO HGl HF HNx
      by_cases h0 : gs.length = 0
      · have HS0 : Hid (∀ W, Calls Tryd.prog 67 #[.slice A 0 C, .func (.func 68) #[] #[]] W fun e w' => e = .returned (.tuple #[]) ∧ w' = W) := Lib.hid fun W => sstable_none A C W
        go_wp2_with fail
        refine (HS0.out _).mono ?_
        rintro e w8 ⟨rfl, hw8⟩
        subst hw8
        go_wp2_with fail
        go_ret
        have hT0 : T = [] := List.eq_nil_of_length_eq_zero (by rw [HTl.out]; exact h0)
        subst hT0
        exact ⟨A, C, [], vs, rfl, ⟨List.Perm.refl _, fun p q h1 h2 => absurd h2 (Nat.not_lt_zero _)⟩, Hh.out.sl (k := 0) rfl, HC0.out, Hh.out.below⟩
      · have ho : Own wr w.heap.size 51 A (C * 3) vs := Hh.out.sl (k := 0) rfl
        obtain ⟨b, off, rfl, hB, _⟩ := Own.open ho (by have := Hvl.out; omega)
        have HP0 : Hid (PSt w.heap.size wr b off C wr T) := Lib.hid ⟨hB, ⟨rfl, rfl, rfl, Nat.le_refl _, fun _ _ _ => rfl⟩, vs, ho.tight, HC0.out⟩
        have HS1 : Hid (Calls Tryd.prog 67 #[.slice (some ⟨b, off, none⟩) gs.length C, .func (.func 68) #[] #[]] wr fun e w' => e = .returned (.tuple #[]) ∧ ∃ ys, SrtTo T ys T.length ∧ PSt w.heap.size wr b off C w' ys) := Lib.hid (by
          rw [← HTl.out]
          exact sstable_any w.heap.size b off C T wr Hbd.out (by rw [HTl.out]; omega) (by rw [HTl.out]; exact hgl) HP0.out)
        clear ho
        go_wp2_with fail
        refine HS1.out.mono ?_
        rintro e w8 ⟨rfl, ys, hsr, hps⟩
        have HY := Lib.hid (And.intro hsr hps)
        clear hsr hps
        go_wp2_with fail
        go_ret
        obtain ⟨vs8, h8, h9⟩ := HY.out.2.cells
        have hl8 : ys.length = gs.length := by rw [HY.out.1.perm.length_eq]; exact HTl.out
        exact ⟨some ⟨b, off, none⟩, C, ys, vs8, by rw [hl8]; rfl, by rw [HY.out.1.perm.length_eq]; exact HY.out.1, h8.mono hB, h9, Hh.out.below.trans ((HY.out.2.turned.below (B := w.heap.size) Hh.out.below.size fun x hx => by cases hx; exact hB))⟩
end Go.Proofs.YtmhhjchnjaefhaaDoor


namespace Go.Proofs.YtmhhjchnjaefhaaDoor
open Go Go.RowKit
/-- Shorter, or as long and not greater. -/
def slx (s t : List Int) : Bool := if s.length = t.length then decide (cmpL s t ≤ 0) else decide (s.length ≤ t.length)
theorem slx_trans (a b c : List Int) (h : slx a b = true) (g : slx b c = true) : slx a c = true := by
  unfold slx at *
  by_cases h1 : a.length = b.length
  · rw [if_pos h1, decide_eq_true_eq] at h
    by_cases h2 : b.length = c.length
    · rw [if_pos h2, decide_eq_true_eq] at g
      rw [if_pos (h1.trans h2), decide_eq_true_eq]
      exact leL_trans h g
    · rw [if_neg h2, decide_eq_true_eq] at g
      rw [if_neg (by omega), decide_eq_true_eq]; omega
  · rw [if_neg h1, decide_eq_true_eq] at h
    by_cases h2 : b.length = c.length
    · rw [if_neg (by omega), decide_eq_true_eq]; omega
    · rw [if_neg h2, decide_eq_true_eq] at g
      rw [if_neg (by omega), decide_eq_true_eq]; omega
theorem slx_total (a b : List Int) : (slx a b || slx b a) = true := by
  unfold slx
  by_cases h : a.length = b.length
  · rw [if_pos h, if_pos h.symm, Bool.or_eq_true, decide_eq_true_eq, decide_eq_true_eq]
    exact leL_total a b
  · rw [if_neg h, if_neg (fun e => h e.symm), Bool.or_eq_true, decide_eq_true_eq, decide_eq_true_eq]
    omega
theorem slx_anti {a b : List Int} (h : slx a b = true) (g : slx b a = true) : a = b := by
  unfold slx at *
  by_cases h1 : a.length = b.length
  · rw [if_pos h1, decide_eq_true_eq] at h
    rw [if_pos h1.symm, decide_eq_true_eq] at g
    exact leL_antisymm h g
  · rw [if_neg h1, decide_eq_true_eq] at h
    rw [if_neg (fun e => h1 e.symm), decide_eq_true_eq] at g
    omega
/-- Codes, sorted. -/
def srtC (l : List (List Int)) : List (List Int) := l.mergeSort slx
theorem srtC_uniq {l ys : List (List Int)} (hp : ys.Perm l) (hs : ys.Pairwise fun a b => slx a b = true) : ys = srtC l := by
  have h1 : (srtC l).Perm l := List.mergeSort_perm _ _
  have h2 : (srtC l).Pairwise fun a b => slx a b = true := List.pairwise_mergeSort slx_trans slx_total l
  exact List.Perm.eq_of_pairwise (fun a b _ _ h g => slx_anti h g) hs h2 (hp.trans h1.symm)
/-- The codes of the pieces in order. -/
noncomputable def codesL (S M : List Int) (n : Nat) : List (List Int) := srtC ((pinf S M n).map Prod.fst)
/-- The pieces themselves, sorted. -/
theorem srtTo_codes {S M : List Int} {n : Nat} {ys : List Dgm} (h : SrtTo ((grpOf M n).map (pieOf S M n)) ys ys.length) :
    ys.map (fun p => p.1) = codesL S M n ∧ (∀ p, p ∈ ys → p.1.length = 5 * p.2.1.length) ∧ (ys.map fun p => (p.1, p.2.2)).Perm (pinf S M n) := by
  have hl : ∀ p, p ∈ ys → p.1.length = 5 * p.2.1.length := fun p hp => by
    obtain ⟨G, hG, rfl⟩ := List.mem_map.1 (h.perm.mem_iff.1 hp)
    obtain ⟨c, hc, rfl⟩ := List.mem_map.1 hG
    exact pie_len (pie_is S M n (cls_pos (mem_leadsN.1 hc).1))
  refine ⟨srtC_uniq ?_ ?_, hl, ?_⟩
  · have := h.perm.map (fun p => p.1)
    rw [List.map_map] at this
    unfold pinf
    rw [List.map_map]
    exact this
  · rw [List.pairwise_map, List.pairwise_iff_getElem]
    intro i j hi hj hij
    have e1 : dg ys i = ys[i] := by have := dg_get hi; rw [List.getElem?_eq_getElem hi] at this; exact (Option.some.inj this).symm
    have e2 : dg ys j = ys[j] := by have := dg_get hj; rw [List.getElem?_eq_getElem hj] at this; exact (Option.some.inj this).symm
    have k := h.srt i j hij hj
    rw [e1, e2] at k
    have l1 := hl _ (List.getElem_mem hi)
    have l2 := hl _ (List.getElem_mem hj)
    generalize ys[i] = x at *
    generalize ys[j] = y at *
    unfold pc pcmp at k
    unfold slx
    by_cases g : x.2.1.length = y.2.1.length
    · rw [if_pos g] at k
      rw [if_pos (by omega), decide_eq_true_eq]; exact k
    · rw [if_neg g] at k
      rw [if_neg (by omega), decide_eq_true_eq]; omega
  · have := h.perm.map (fun p => (p.1, p.2.2))
    rw [List.map_map] at this
    exact this
/-- The code of some pieces. -/
def encC (L : Int) (cs : List (List Int)) : List Int := L :: (cs.length : Int) :: cs.flatMap fun c => ((c.length / 5 : Nat) : Int) :: c
/-- The code of a diagram. -/
noncomputable def codeOf (S M : List Int) (L : Int) : List Int := encC L (codesL S M S.length)
/-- The code as it is written: the first i pieces. -/
def codeY (L : Int) (ys : List Dgm) (i : Nat) : List Int := L :: (ys.length : Int) :: (ys.take i).flatMap fun p => (p.2.1.length : Int) :: p.1
theorem codeY_succ (L : Int) {ys : List Dgm} {i : Nat} (h : i < ys.length) : codeY L ys (i + 1) = codeY L ys i ++ [((ys.getD i ([], [], 0)).2.1.length : Int)] ++ (ys.getD i ([], [], 0)).1 := by
  unfold codeY
  rw [List.take_add_one, getD_some (d := ([], [], 0)) h, List.flatMap_append]
  simp
theorem codeY_all {L : Int} {S M : List Int} {ys : List Dgm} (h : SrtTo ((grpOf M S.length).map (pieOf S M S.length)) ys ys.length) : codeY L ys ys.length = codeOf S M L := by
  obtain ⟨h1, h2, _⟩ := srtTo_codes h
  unfold codeY codeOf encC
  rw [List.take_length, ← h1, List.length_map, List.flatMap_map]
  congr 2
  rw [List.flatMap_def, List.flatMap_def]
  congr 1
  refine List.map_congr_left fun p hp => ?_
  have := h2 p hp
  rw [show p.1.length / 5 = p.2.1.length by omega]
theorem piece_few {S M : List Int} {n : Nat} (hm : ∀ x, x < 4 * n → mt M x < 4 * n) {ys : List Dgm} (h : SrtTo ((grpOf M n).map (pieOf S M n)) ys ys.length) {p : Dgm} (hp : p ∈ ys) : p.1.length ≤ 5 * n ∧ p.2.1.length ≤ n ∧ p.1.length = 5 * p.2.1.length := by
  obtain ⟨G, hG, rfl⟩ := List.mem_map.1 (h.perm.mem_iff.1 hp)
  obtain ⟨c, hc, rfl⟩ := List.mem_map.1 hG
  have hi := pie_is S M n (cls_pos (M := M) (n := n) (mem_leadsN.1 hc).1)
  have hl := pie_len hi
  obtain ⟨r, hr, e1, e2⟩ := hi.at_
  have := ordTo_len hm (mem_clsN.1 hr).1 n
  have e3 : (pieOf S M n (clsN M n c)).2.1.length ≤ n := by rw [e2, nats_length]; exact this
  exact ⟨by omega, e3, hl⟩
theorem codeY_few (L : Int) {ys : List Dgm} {k : Nat} (h : ∀ p, p ∈ ys → p.1.length ≤ k) : ∀ i, i ≤ ys.length → (codeY L ys i).length ≤ 2 + i * (k + 1) := fun i => by
  induction i with
  | zero => intro _; simp [codeY]
  | succ i ih =>
    intro hi
    have h1 := ih (by omega)
    have h2 := h (ys.getD i ([], [], 0)) (by rw [List.getD_eq_getElem?_getD, List.getElem?_eq_getElem (by omega)]; exact List.getElem_mem _)
    rw [codeY_succ L (by omega), List.length_append, List.length_append, Nat.add_mul]
    simp only [List.length_cons, List.length_nil]
    omega
theorem codeOf_few2 {S M : List Int} {L : Int} (hv : vldB S M L = true) (h20 : S.length ≤ 20) : (codeOf S M L).length ≤ 2100 := by
  have hs := vldB_shape hv
  have hk : ∀ l, l ∈ codesL S M S.length → l.length ≤ 100 := fun l hl => by
    have hl := (List.mergeSort_perm _ _).mem_iff.1 hl
    obtain ⟨q, hq, rfl⟩ := List.mem_map.1 hl
    obtain ⟨G, hG, rfl⟩ := List.mem_map.1 hq
    obtain ⟨c, hc, rfl⟩ := List.mem_map.1 hG
    obtain ⟨r, hr, e1, _⟩ := (pie_is S M S.length (cls_pos (M := M) (n := S.length) (mem_leadsN.1 hc).1)).at_
    have := ordTo_len (M := M) (fun x hx => hs.mt_lt hx) (mem_clsN.1 hr).1 S.length
    show (pieOf S M S.length _).1.length ≤ 100
    rw [e1, codeL_len]
    show 5 * (ordTo M r S.length).length ≤ 100
    omega
  have hn : (codesL S M S.length).length ≤ 20 := by
    unfold codesL srtC pinf
    rw [List.length_mergeSort, List.length_map, List.length_map]
    exact Nat.le_trans (grp_len M S.length) h20
  unfold codeOf encC
  rw [List.length_cons, List.length_cons]
  generalize codesL S M S.length = cs at *
  have key : ∀ (l : List (List Int)), (∀ x, x ∈ l → x.length ≤ 100) → (l.flatMap fun c => ((c.length / 5 : Nat) : Int) :: c).length ≤ l.length * 101 := fun l => by
    induction l with
    | nil => intro _; simp
    | cons a l ih =>
      intro h
      rw [List.flatMap_cons, List.length_append, List.length_cons, List.length_cons]
      have h1 := h a List.mem_cons_self
      have h2 := ih fun x hx => h x (List.mem_cons_of_mem _ hx)
      omega
  have := key cs hk
  have := Nat.mul_le_mul hn (Nat.le_refl 101)
  omega
theorem part_union {M : List Int} {n : Nat} {G H : List Nat} (hG : Whole M n G) (hH : Whole M n H) (hd : ∀ c, c ∈ G → c ∉ H) : uniM (partM M G) (partM M H) = partM M (G ++ H) := by
  refine ext_nth (by rw [uniM_len, partM_len, partM_len, partM_len, List.length_append]; omega) fun i hi => ?_
  rw [uniM_len, partM_len, partM_len] at hi
  have gg : ∀ {K : List Nat} {j}, j < K.length → K.getD j 0 ∈ K := fun {K j} h => getD_mem h
  rw [partM_nth (G := G ++ H) (by rw [List.length_append]; omega)]
  rcases Nat.lt_or_ge i (4 * G.length) with h | h
  · have e : (G ++ H).getD (i / 4) 0 = G.getD (i / 4) 0 := by rw [List.getD_eq_getElem?_getD, List.getD_eq_getElem?_getD, List.getElem?_append_left (by omega)]
    rw [uniM_left (by rw [partM_len]; exact h), partM_nth h, e]
    unfold partV idxI
    have hin := hG.cl _ (gg (K := G) (j := i / 4) (by omega)) (mt M (4 * G.getD (i / 4) 0 + i % 4) / 4) ⟨i % 4, by omega, rfl⟩
    rw [List.idxOf_append, if_pos hin]
  · obtain ⟨j, rfl⟩ := Nat.exists_eq_add_of_le h
    have e : (G ++ H).getD ((4 * G.length + j) / 4) 0 = H.getD (j / 4) 0 := by
      rw [List.getD_eq_getElem?_getD, List.getD_eq_getElem?_getD, List.getElem?_append_right (by omega)]
      congr 2; omega
    have := uniM_right (A := partM M G) (B := partM M H) (h := j) (by rw [partM_len]; omega)
    rw [partM_len] at this
    rw [this, partM_nth (G := H) (by omega), e, show (4 * G.length + j) % 4 = j % 4 by omega]
    unfold partV idxI
    have hin := hH.cl _ (gg (K := H) (j := j / 4) (by omega)) (mt M (4 * H.getD (j / 4) 0 + j % 4) / 4) ⟨j % 4, by omega, rfl⟩
    rw [List.idxOf_append, if_neg (fun h => hd _ h hin)]
    omega
theorem partS_append (S : List Int) (G H : List Nat) : partS S (G ++ H) = partS S G ++ partS S H := by unfold partS; rw [List.map_append]
/-- A diagram renumbered by any order of its crossings. -/
theorem whole_perm {M : List Int} {n : Nat} (hm : MateOk M n) {o : List Nat} (h : o.Perm (List.range n)) : Whole M n o :=
  ⟨fun _ hc => List.mem_range.1 (h.mem_iff.1 hc), h.nodup_iff.2 List.nodup_range, fun _ hc _ hcd => h.mem_iff.2 (List.mem_range.2 (hm.adj_lt (List.mem_range.1 (h.mem_iff.1 hc)) hcd))⟩
end Go.Proofs.YtmhhjchnjaefhaaDoor


namespace Go.Proofs
open Go.Shelf
def Tryd.lays169_ren : Go.Shelf.Ren := ⟨fun | 169 => 53 | n => n, fun | 70 => 55 | 9 => 9 | 0 => 0 | 72 => 58 | 37 => 56 | 127 => 78 | 3 => 3 | 5 => 5 | n => n, fun | n => n⟩
theorem Tryd.lays169 : Go.Proofs.Lays.n169 Tryd.prog Tryd.lays169_ren := {
  mixed := by kernel_rfl
  f169 := Tryd.func53.trans (congrArg some (by kernel_rfl))
  t0 := Tryd.underlying0
  a0 := Tryd.isAgg0
  z0 := Tryd.sizeOf0
  v0 := Tryd.zeroValue0
  t3 := Tryd.underlying3
  a3 := Tryd.isAgg3
  z3 := Tryd.sizeOf3
  v3 := Tryd.zeroValue3
  t9 := Tryd.underlying9
  a9 := Tryd.isAgg9
  z9 := Tryd.sizeOf9
  v9 := Tryd.zeroValue9
  t37 := Tryd.underlying56
  a37 := Tryd.isAgg56
  z37 := Tryd.sizeOf56
  v37 := Tryd.zeroValue56
  t70 := Tryd.underlying55
  a70 := Tryd.isAgg55
  z70 := Tryd.sizeOf55
  v70 := Tryd.zeroValue55
  t72 := Tryd.underlying58
  a72 := Tryd.isAgg58
  z72 := Tryd.sizeOf58
  v72 := Tryd.zeroValue58
  t127 := Tryd.underlying78
  a127 := Tryd.isAgg78
  z127 := Tryd.sizeOf78
  v127 := Tryd.zeroValue78 }
theorem Tryd.Builder_Extra_169 : Builder.Extra Tryd.prog Tryd.lays169_ren := {
  sizeBuilder := by kernel_rfl
  liesBuilder := by kernel_rfl
  t5 := Tryd.underlying5
  a5 := Tryd.isAgg5
  z5 := Tryd.sizeOf5
  v5 := Tryd.zeroValue5
  infoByte := by kernel_rfl
  cellsByte := by kernel_rfl
  sizeByte := by kernel_rfl
  neB5 := by decide }
open Go.RowKit in
/-- (*strings.Builder).String: "String returns the accumulated string.": WHATEVER THE BUILDER HOLDS. (LAID: no walk: one application.) -/
theorem Tryd.Builder_String_any (B b : Nat) (l : List UInt8) (w : World) (h : Lib.IsBuilder 58 5 B b (Lib.byteCells l) w) (hBw : B ≤ w.heap.size) :
    Calls Tryd.prog 53 #[.pointer (some ⟨b, 0, none⟩)] w fun e w' => e = .returned (.string ⟨l.toArray⟩) ∧ Below B w w' := Any.Builder_String_any Tryd.lays169 Tryd.Builder_Extra_169 B b l w h hBw
def Tryd.laysM171_ren : Go.Shelf.Ren := ⟨fun | 171 => 29 | 243 => 54 | 246 => 73 | 283 => 79 | 284 => 80 | 285 => 81 | 286 => 82 | 129 => 87 | 317 => 86 | 318 => 88 | 319 => 89 | 320 => 90 | 337 => 92 | 338 => 93 | n => n, fun | 3 => 3 | 9 => 9 | 2 => 2 | 4 => 4 | 171 => 84 | 0 => 0 | 53 => 85 | 37 => 56 | 5 => 5 | 173 => 88 | 212 => 93 | 51 => 94 | 20 => 20 | 213 => 95 | 46 => 96 | 232 => 99 | 233 => 100 | n => n, fun | 17 => 0 | 18 => 1 | 19 => 2 | n => n⟩
theorem Tryd.laysM171 : Go.Proofs.LaysM.n171 Tryd.prog Tryd.laysM171_ren := {
  mixed := by kernel_rfl
  f129 := Tryd.func87.trans (congrArg some (by kernel_rfl))
  f171 := Tryd.func29.trans (congrArg some (by kernel_rfl))
  f243 := Tryd.func54.trans (congrArg some (by kernel_rfl))
  f246 := Tryd.func73.trans (congrArg some (by kernel_rfl))
  f283 := Tryd.func79.trans (congrArg some (by kernel_rfl))
  f284 := Tryd.func80.trans (congrArg some (by kernel_rfl))
  f285 := Tryd.func81.trans (congrArg some (by kernel_rfl))
  f286 := Tryd.func82.trans (congrArg some (by kernel_rfl))
  f317 := Tryd.func86.trans (congrArg some (by kernel_rfl))
  f318 := Tryd.func88.trans (congrArg some (by kernel_rfl))
  f319 := Tryd.func89.trans (congrArg some (by kernel_rfl))
  f320 := Tryd.func90.trans (congrArg some (by kernel_rfl))
  f337 := Tryd.func92.trans (congrArg some (by kernel_rfl))
  f338 := Tryd.func93.trans (congrArg some (by kernel_rfl))
  t0 := Tryd.underlying0
  a0 := Tryd.isAgg0
  z0 := Tryd.sizeOf0
  v0 := Tryd.zeroValue0
  t2 := Tryd.underlying2
  a2 := Tryd.isAgg2
  z2 := Tryd.sizeOf2
  v2 := Tryd.zeroValue2
  t3 := Tryd.underlying3
  a3 := Tryd.isAgg3
  z3 := Tryd.sizeOf3
  v3 := Tryd.zeroValue3
  t4 := Tryd.underlying4
  a4 := Tryd.isAgg4
  z4 := Tryd.sizeOf4
  v4 := Tryd.zeroValue4
  t5 := Tryd.underlying5
  a5 := Tryd.isAgg5
  z5 := Tryd.sizeOf5
  v5 := Tryd.zeroValue5
  t9 := Tryd.underlying9
  a9 := Tryd.isAgg9
  z9 := Tryd.sizeOf9
  v9 := Tryd.zeroValue9
  t20 := Tryd.underlying20
  a20 := Tryd.isAgg20
  z20 := Tryd.sizeOf20
  v20 := Tryd.zeroValue20
  t37 := Tryd.underlying56
  a37 := Tryd.isAgg56
  z37 := Tryd.sizeOf56
  v37 := Tryd.zeroValue56
  t46 := Tryd.underlying96
  a46 := Tryd.isAgg96
  z46 := Tryd.sizeOf96
  v46 := Tryd.zeroValue96
  t51 := Tryd.underlying94
  a51 := Tryd.isAgg94
  z51 := Tryd.sizeOf94
  v51 := Tryd.zeroValue94
  t53 := Tryd.underlying85
  a53 := Tryd.isAgg85
  z53 := Tryd.sizeOf85
  v53 := Tryd.zeroValue85
  t171 := Tryd.underlying84
  a171 := Tryd.isAgg84
  z171 := Tryd.sizeOf84
  v171 := Tryd.zeroValue84
  t173 := Tryd.underlying88
  a173 := Tryd.isAgg88
  z173 := Tryd.sizeOf88
  v173 := Tryd.zeroValue88
  t212 := Tryd.underlying93
  a212 := Tryd.isAgg93
  z212 := Tryd.sizeOf93
  v212 := Tryd.zeroValue93
  t213 := Tryd.underlying95
  a213 := Tryd.isAgg95
  z213 := Tryd.sizeOf95
  t232 := Tryd.underlying99
  a232 := Tryd.isAgg99
  z232 := Tryd.sizeOf99
  v232 := Tryd.zeroValue99
  t233 := Tryd.underlying100
  a233 := Tryd.isAgg100
  z233 := Tryd.sizeOf100
  v233 := Tryd.zeroValue100
  g17 := by kernel_rfl
  g18 := by kernel_rfl
  g19 := by kernel_rfl
  i0 := by kernel_rfl
  i2 := by kernel_rfl
  i3 := by kernel_rfl
  i4 := by kernel_rfl
  i5 := by kernel_rfl
  i9 := by kernel_rfl
  i20 := by kernel_rfl
  i37 := by kernel_rfl
  i46 := by kernel_rfl
  i51 := by kernel_rfl
  i53 := by kernel_rfl
  i171 := by kernel_rfl
  i173 := by kernel_rfl
  i212 := by kernel_rfl
  i232 := by kernel_rfl
  i233 := by kernel_rfl
  m17 := by kernel_rfl
  m18 := by kernel_rfl
  m19 := by kernel_rfl }
open Go.RowKit Go.Sort Go.Lib in
/-- strconv.Itoa: "Itoa is equivalent to FormatInt(int64(i), 10).": i's DECIMAL NUMERAL ('Lib.itoa': a '-' where i is negative, then the digits), FOR EVERY int. The world behind the call: the world before it, new blocks behind the heap (the library's 'var a [24]byte'), draws. (LAID: no walk: one application.) -/
theorem Tryd.strconv_Itoa (n : Int) (h0 : -9223372036854775808 ≤ n) (h1 : n ≤ 9223372036854775807) (w : World) (htab : Lib.TabIs Tryd.prog w "internal/strconv.uint64pow10" .u64 Lib.pow10Tab) :
    Calls Tryd.prog 29 #[.int .i64 n] w fun e w' => e = .returned (.string ⟨(Lib.itoa n).toArray⟩) ∧ ∃ k os, w' = grow (w.drewN k) os := Any.strconv_Itoa Tryd.laysM171 n h0 h1 w htab
def Tryd.lays111_ren : Go.Shelf.Ren := ⟨fun | 111 => 43 | n => n, fun | 28 => 22 | 3 => 3 | 4 => 4 | 0 => 0 | n => n, fun | n => n⟩
theorem Tryd.lays111 : Go.Proofs.Lays.n111 Tryd.prog Tryd.lays111_ren := {
  mixed := by kernel_rfl
  f111 := Tryd.func43.trans (congrArg some (by kernel_rfl))
  t0 := Tryd.underlying0
  a0 := Tryd.isAgg0
  z0 := Tryd.sizeOf0
  v0 := Tryd.zeroValue0
  t3 := Tryd.underlying3
  a3 := Tryd.isAgg3
  z3 := Tryd.sizeOf3
  v3 := Tryd.zeroValue3
  t4 := Tryd.underlying4
  a4 := Tryd.isAgg4
  z4 := Tryd.sizeOf4
  v4 := Tryd.zeroValue4
  t28 := Tryd.underlying22
  a28 := Tryd.isAgg22
  z28 := Tryd.sizeOf22
  v28 := Tryd.zeroValue22 }
open Go.RowKit Go.Lib in
/-- slices.Equal at []int: "Equal reports whether two slices are equal: the same length and all elements equal. If the lengths are different, Equal returns false. Otherwise, the elements are compared in increasing index order, and the comparison stops at the first unequal pair. Empty and nil slices are considered equal.": IT RETURNS WHETHER THE TWO LISTS OF ELEMENTS ARE ONE; the world is as it was but for the count of draws (the test 's1[i] != s2[i]' has two reads, whose order the model draws, once a round). 'xs', 'ys': what the cells behind the two addresses hold (the spare capacity too, if you have it); 'xs.take n', 'ys.take m': the elements. THE TWO SLICES MAY OVERLAP. (LAID: no walk: one application.) -/
theorem Tryd.slices_Equal_int (b1 o1 n c b2 o2 m d : Nat) (xs ys : List Int) (w : World) (hx : n ≤ xs.length) (hy : m ≤ ys.length) (hbig : n ≤ 9223372036854775807) (hbig2 : m ≤ 9223372036854775807) (hc1 : ∀ j, j < xs.length → w.cell? ⟨b1, o1 + j, none⟩ = some (.int .i64 (xs.getD j 0))) (hc2 : ∀ j, j < ys.length → w.cell? ⟨b2, o2 + j, none⟩ = some (.int .i64 (ys.getD j 0))) :
    Calls Tryd.prog 43 #[.slice (some ⟨b1, o1, none⟩) n c, .slice (some ⟨b2, o2, none⟩) m d] w fun e w' => e = .returned (.bool (xs.take n == ys.take m)) ∧ ∃ q, w' = w.drewN q := Any.slices_Equal_int Tryd.lays111 b1 o1 n c b2 o2 m d xs ys w hx hy hbig hbig2 hc1 hc2
open Go.RowKit Go.Lib in
/-- The same where the first is of length 0 (a nil one too): no cell is asked for. (LAID: no walk: one application.) -/
theorem Tryd.slices_Equal_int_empty (a1 a2 : Option Addr) (c m d : Nat) (w : World) (hbig2 : m ≤ 9223372036854775807) :
    Calls Tryd.prog 43 #[.slice a1 0 c, .slice a2 m d] w fun e w' => e = .returned (.bool (decide (m = 0))) ∧ w' = w := Any.slices_Equal_int_empty Tryd.lays111 a1 a2 c m d w hbig2
open Go.RowKit Go.Lib in
theorem Tryd.slices_Equal_int_lens (a1 a2 : Option Addr) (n c m d : Nat) (w : World) (hnm : n ≠ m) :
    Calls Tryd.prog 43 #[.slice a1 n c, .slice a2 m d] w fun e w' => e = .returned (.bool false) ∧ w' = w := Any.slices_Equal_int_lens Tryd.lays111 a1 a2 n c m d w hnm
end Go.Proofs

namespace Go.Proofs.YtmhhjchnjaefhaaDoor
open Go Go.RowKit
/-- In order. -/
def srt (xs : List Int) : List Int := xs.mergeSort fun x y => decide (x ≤ y)
end Go.Proofs.YtmhhjchnjaefhaaDoor


namespace Go.Proofs.YtmhhjchnjaefhaaDoor
open Go Go.RowKit
/-- Slices that are read. -/
def SlsAt (w : World) (b off : Nat) (xss : List (List Int)) : Prop := ∀ (i : Nat) (row : List Int), xss[i]? = some row → ∃ a c, w.cell? ⟨b, off + i, none⟩ = some (.slice a row.length c) ∧ IntsAt w a row
theorem SlsAt.later {w w' : World} {b off : Nat} {xss : List (List Int)} (h : SlsAt w b off xss) (hb : Below w.heap.size w w') : SlsAt w' b off xss := fun i row hi => by
  obtain ⟨a, c, h1, h2⟩ := h i row hi
  exact ⟨a, c, (hb.cell (p := ⟨b, off + i, none⟩) (World.block_lt_of_cell? w _ h1)).trans h1, h2.later hb⟩
end Go.Proofs.YtmhhjchnjaefhaaDoor


namespace Go.Proofs.YtmhhjchnjaefhaaDoor
open Go Go.RowKit
theorem IntsAt.setOther {w : World} {a : Option Addr} {xs : List Int} (h : IntsAt w a xs) (p : Addr) (u : Value) (hp : ∀ x, a = some x → x.block ≠ p.block) : IntsAt (w.setCell p u) a xs := by
  intro i v hi
  obtain ⟨b, off, he, hc⟩ := h i v hi
  refine ⟨b, off, he, ?_⟩
  have hb := hp _ he
  exact (World.cell?_setCell_far w p ⟨b, off + i, none⟩ u fun e => hb e.symm).trans hc
end Go.Proofs.YtmhhjchnjaefhaaDoor


