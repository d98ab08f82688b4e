/- canon.pieces: the pieces of a valid diagram, sorted. Plain law: how many prime factors there are at most; an append of whole lists in a region that draws its order. The contracts of slices.Sort, Equal, Clone, Compact, Contains, Index at this program, as the shelf's plain mode lays them. slices.Sort on a slice of the call's own. -/
import Derived.WalkKit
import Derived.WalkSpells
import Derived.WalkLawsBesides
import Derived.Deep.AppendSrc
import Derived.Deep.LoopGhost
import Derived.Deep.QuietTactic
import Derived.Deep.RegionWith
import Derived.Deep.DeepMust
import Derived.Deep.DeepFit
import Derived.BigQuiet
import Derived.Lib.Hide
import Derived.Outline
import Derived.Test.YtmjoijfafachhaaProg
import Derived.Deep.Matrix
import Derived.Deep.DeepCutAuto
import Derived.Deep.RegionLaw
import Derived.Deep.RegionHeld3
import Derived.Lib.SliceRun
import Derived.Shelf.Small.Bits
import Derived.Shelf.Small.Wraps
import Derived.Shelf.Strconv.Itoa0
import Derived.Shelf.Sort.Plain
import Derived.Shelf.Slices.Turned
import Derived.Shelf.Slices.Equal
import Derived.Ground.Names2Prog
import Derived.Shelf.Slices.Clone
import Derived.Shelf.Slices.CompactI
import Derived.Shelf.Slices.SearchI
import Derived.Shelf.Slices.Cells
import Derived.Shelf.Slices.In.SortNone
import Derived.Shelf.Slices.Empties2
import Derived.Ground.SlgnProg
import Derived.Shelf.SlicesE.Clone
import Derived.Sort.OwnSortedInts
import Derived.Test.YtmjoijfafachhaaSAa
import Derived.Test.YtmjoijfafachhaaSAb
import Derived.Test.YtmjoijfafachhaaSAc
import Derived.Test.YtmjoijfafachhaaSAd
import Derived.Test.YtmjoijfafachhaaSAe
import Derived.Test.YtmjoijfafachhaaSAf
import Derived.Test.YtmjoijfafachhaaSAg
import Derived.Test.YtmjoijfafachhaaSAh
import Derived.Test.YtmjoijfafachhaaSAi
import Derived.Test.YtmjoijfafachhaaSAj
import Derived.Test.YtmjoijfafachhaaSAk
import Derived.Test.YtmjoijfafachhaaSAl
import Derived.Test.YtmjoijfafachhaaSAm
import Derived.Test.YtmjoijfafachhaaSAn
import Derived.Test.YtmjoijfafachhaaSAo
import Derived.Test.YtmjoijfafachhaaSAp
import Derived.Test.YtmjoijfafachhaaSAq
namespace Go.Proofs.Ytmjoijfafachhaa
open Go Go.RowKit
/-- One cell of a box is written; all else stays. -/
theorem HH.put1 {w0 w : World} {y : Nat × (Obj → Prop)} {s : List SlO} {q : Nat} {vs0 : List Value} (h : HH w0 w [y, (q, rowO 78 vs0)] s) (i : Nat) (u : Value) :
    HH w0 (w.setCell ⟨q, i, none⟩ u) [y, (q, rowO 78 (vs0.set i u))] s ∧
    (∀ (B0 : Nat) (a : Option Addr) (xs : List Int), B0 ≤ w0.heap.size → TI w B0 a xs → TI (w.setCell ⟨q, i, none⟩ u) B0 a xs) ∧
    (∀ (B0 : Nat) (vs : List Value) (ds : List Dgm), B0 ≤ w0.heap.size → CellsOf w B0 vs ds → CellsOf (w.setCell ⟨q, i, none⟩ u) B0 vs ds) ∧
    (∀ (B : Nat) (a : Option Addr) (c : Nat) (xss : List (List Int)), OwnRows w B a c xss → OwnRows (w.setCell ⟨q, i, none⟩ u) B a c xss) := by
  have h1 := h.set (k := 1) rfl i u
  have hr := h.row (k := 1) rfl
  have ho := hr.own (h.obj (k := 1) rfl).1
  have t1 := turned_set w q 0 i u
  rw [Nat.zero_add] at t1
  exact ⟨h1, fun B0 a xs hB ht => ht.turned (by decide) hB ho t1, fun B0 vs ds hB hc => hc.turned (by decide) hB ho t1, fun B a c xss hx => hx.turned ho (by decide) (by decide) t1⟩
theorem nats_at (G : List Nat) {k : Nat} (h : k < G.length) : nth (nats G) k = ((G.getD k 0 : Nat) : Int) := by
  unfold nth nats
  rw [List.getD_eq_getElem?_getD, List.getD_eq_getElem?_getD, List.getElem?_map, List.getElem?_eq_getElem h]; rfl
theorem Own.tight {w : World} {B : Nat} {E : TypeId} {b off c : Nat} {vs : List Value} (h : Own w B E (some ⟨b, off, none⟩) c vs) : Own w b E (some ⟨b, off, none⟩) c vs := by
  rcases h with ⟨h, _⟩ | ⟨b', off', cur, he, _, h3⟩
  · cases h
  · cases he
    exact .inr ⟨b, off, cur, rfl, Nat.le_refl _, h3⟩
set_option maxRecDepth 100000 in
set_option maxHeartbeats 1000000 in
theorem cpieces_any (S M : List Int) (L : Int) (aS aM : Option Addr) (cS cM : Nat) (w : World) (hv : vldB S M L = true) (h20 : S.length ≤ 20) (hS : IntsAt w aS S) (hM : IntsAt w aM M) :
    Calls Try.prog 82 #[.agg #[.slice aS S.length cS, .slice aM M.length cM, .int .i64 L]] w fun e w' => ∃ A C ys vs, e = .returned (.slice A ys.length C) ∧ SrtTo ((grpOf M S.length).map (pieOf S M S.length)) ys ys.length ∧ Own w' w.heap.size 78 A (C * 3) vs ∧ CellsOf w' w.heap.size vs ys ∧ Below w.heap.size w w' := by
  have hs := vldB_shape hv
  have hm := hs.mates
  have HMT : Hid (∀ x, x < 4 * S.length → mt M x < 4 * S.length) := Lib.hid fun x hx => hs.mt_lt hx
  have HGr : Hid (∀ W', Below w.heap.size w W' → Calls Try.prog 28 #[.agg #[.slice aS S.length cS, .slice aM M.length cM, .int .i64 L]] W' fun e w' => ∃ a c, e = .returned (.slice a (grpOf M S.length).length c) ∧ OwnRows w' W'.heap.size a c ((grpOf M S.length).map nats) ∧ Below W'.heap.size W' w') := Lib.hid fun W' h => graph_any S M L aS aM cS cM W' hv (hS.later h) (hM.later h)
  have HF : Hid (∀ r, r < S.length → ∀ W', Below w.heap.size w W' → Calls Try.prog 91 #[.agg #[.slice aS S.length cS, .slice aM M.length cM, .int .i64 L], .int .i64 (r : Int), .slice none 0 0] W' fun e w' => ∃ A C A' C', e = .returned (.tuple #[.slice A' (codeL S M r S.length).length C', .slice A (ordL M r S.length).length C, .int .i64 (-1)]) ∧ Own w' W'.heap.size 3 A C (ints (nats (ordL M r S.length))) ∧ Own w' W'.heap.size 3 A' C' (ints (codeL S M r S.length)) ∧ Below W'.heap.size W' w') := Lib.hid fun r hr W' h => number_first S M L aS aM cS cM r W' hs hr (hS.later h) (hM.later h)
  have HNx : Hid (∀ r, r < S.length → ∀ (B : List Int) aB cB W', Below w.heap.size w W' → IntsAt W' aB B → B.length ≤ cB → B.length = 5 * (ordL M r S.length).length → Calls Try.prog 91 #[.agg #[.slice aS S.length cS, .slice aM M.length cM, .int .i64 L], .int .i64 (r : Int), .slice aB B.length cB] W' fun e w' => (0 < cmpL (codeL S M r S.length) B ∧ e = .returned (.tuple #[.slice none 0 0, .slice none 0 0, .int .i64 1]) ∧ Below W'.heap.size W' w') ∨ (cmpL (codeL S M r S.length) B ≤ 0 ∧ ∃ A C A' C', e = .returned (.tuple #[.slice A' (codeL S M r S.length).length C', .slice A (ordL M r S.length).length C, .int .i64 (cmpL (codeL S M r S.length) B)]) ∧ Own w' W'.heap.size 3 A C (ints (nats (ordL M r S.length))) ∧ Own w' W'.heap.size 3 A' C' (ints (codeL S M r S.length)) ∧ Below W'.heap.size W' w')) := Lib.hid fun r hr B aB cB W' h hB hc hl => number_next S M B L aS aM aB cS cM cB r W' hs hr (hS.later h) (hM.later h) hB hc hl
  have HGl : Hid (∀ i, i < (grpOf M S.length).length → 0 < ((grpOf M S.length).getD i []).length ∧ ((grpOf M S.length).getD i []).length ≤ 20 ∧ ∀ r, r ∈ (grpOf M S.length).getD i [] → r < S.length ∧ (ordL M r S.length).length = ((grpOf M S.length).getD i []).length) := Lib.hid fun i hi => by
    have hmem : (grpOf M S.length).getD i [] ∈ grpOf M S.length := by
      rw [List.getD_eq_getElem?_getD, List.getElem?_eq_getElem hi]; exact List.getElem_mem hi
    have hw := grp_whole hm hmem
    have h1 := hw.1.nd.length_le_of_subset (l₂ := List.range S.length) fun c hc => List.mem_range.2 (hw.1.lt c hc)
    rw [List.length_range] at h1
    exact ⟨hw.2, by omega, fun r hr => ⟨hw.1.lt r hr, ordL_len hm HMT.out hmem hr⟩⟩
  have hgl : (grpOf M S.length).length ≤ 20 := Nat.le_trans (grp_len M S.length) h20
  obtain ⟨i0, hi0, hz0, hz1, hz2⟩ := info_parts Try.info78
  have Hzc : Hid ((Value.agg #[.slice none 0 0, .slice none 0 0, .int .i64 0]).cells.size = 3) := Lib.hid rfl
  have H0 := Lib.hid ((HH.start w).alloc #[.slice aS S.length cS, .slice aM M.length cM, .int .i64 L] 24 rfl rfl)
  clear hs hm hv hS hM
  generalize grpOf M S.length = gs at *
  generalize hT : gs.map (pieOf S M S.length) = T at *
  have HT := Lib.hid hT
  clear hT
  generalize S.length = n at *
  generalize M.length = N at *
  go_enter Try.func82, Try.ntmps82
  go_wp2_with fail
  refine (HGr.out _ H0.out.below).mono ?_
  rintro e w2 ⟨aP, cP, rfl, ho, hb⟩
  have H2 := Lib.hid ((H0.out.call hb).addNil 78)
  have HO := Lib.hid ho
  clear hb ho HGr
  generalize (w.alloc (.cells #[.slice aS n cS, .slice aM N cM, .int .i64 L] 24)).heap.size = q at *
  go_wp2_with fail
  go_loopg [15, 3] gs.length (fun g v s3 wr => ∃ (i : Nat) (A : Option Addr) (C : Nat) (vs : List Value), i ≤ gs.length ∧ g = gs.length - i ∧ v = .int .i64 i ∧ s3 = .slice A i C ∧ i ≤ C ∧ OwnRows wr q aP cP (gs.map nats) ∧ CellsOf wr w.heap.size vs (T.take i) ∧ vs.length = i * 3 ∧ HH w wr [(w.heap.size, rowO 24 [.slice aS n cS, .slice aM N cM, .int .i64 L])] [⟨A, C * 3, 78, vs⟩])
  case atStart => exact ⟨0, none, 0, [], Nat.zero_le _, rfl, rfl, rfl, Nat.le_refl _, HO.out, CellsOf.nil _ _, rfl, H2.out⟩
  case round =>
    obtain ⟨i, A, C, vs, hi, rfl, rfl, rfl, hiC, ho, hc, hvl, hh⟩ := hrel
    replace HO := Lib.hid ho
    have HCl := Lib.hid hc
    have Hh := Lib.hid hh
    have Hvl := Lib.hid hvl
    clear ho hc hh H2 hvl
    by_cases hil : i < gs.length
    · obtain ⟨b1, o1, rfl, _, _, hrow⟩ := HO.out.open (by rw [List.length_map]; omega)
      obtain ⟨a', c', hci, hro⟩ := hrow i (nats (gs.getD i [])) (by rw [List.getElem?_map, getD_some (d := []) hil]; rfl)
      rw [nats_length] at hci
      have HG := Lib.hid (HGl.out i hil)
      have hg1 : 0 < (gs.getD i []).length := HG.out.1
      have hg2 : (gs.getD i []).length ≤ 20 := HG.out.2.1
      have HTi : Hid (T.take (i + 1) = T.take i ++ [pieOf S M n (gs.getD i [])]) := Lib.hid (by
        rw [List.take_add_one, ← HT.out, List.getElem?_map, getD_some (d := []) hil]; rfl)
      have HTr : Hid (TI wr w.heap.size a' (nats (gs.getD i []))) := Lib.hid (TI.own hro)
      generalize gs.getD i [] = Gi at *
      clear hrow hro
      have H3 := Lib.hid (Hh.out.alloc #[.slice none 0 0, .slice none 0 0, .int .i64 0] 78 (b := wr.heap.size) rfl rfl)
      have HX := Lib.hid (And.intro (HO.out.later ((Below.refl _ _).alloc (Nat.le_refl _) (.cells #[.slice none 0 0, .slice none 0 0, .int .i64 0] 78)) (Nat.le_refl _)) (And.intro (HCl.out.later ((Below.refl _ _).alloc (Nat.le_refl _) (.cells #[.slice none 0 0, .slice none 0 0, .int .i64 0] 78))) (HTr.out.later ((Below.refl _ _).alloc (Nat.le_refl _) (.cells #[.slice none 0 0, .slice none 0 0, .int .i64 0] 78)))))
      go_wp2_with fail
      clear Hh HO HCl HTr
      generalize wr.alloc (.cells #[.slice none 0 0, .slice none 0 0, .int .i64 0] 78) = v1 at *
      generalize wr.heap.size = bx at *
      go_loopg [21] Gi.length (fun g v ws => ∃ (k : Nat) (p : Dgm) (a b : Option Addr) (cA cB : Nat), k ≤ Gi.length ∧ g = Gi.length - k ∧ v = .int .i64 k ∧ Hid ((k = 0 → a = none ∧ cA = 0 ∧ p = ([], [], 0)) ∧ (0 < k → p.1.length = 5 * Gi.length ∧ p.1 ≠ [] ∧ p.1.length ≤ cA) ∧ p = (Gi.take k).foldl (pieStep S M n) ([], [], 0)) ∧ 0 ≤ p.2.2 ∧ p.2.2 ≤ (k : Int) ∧ Hid (TI ws w.heap.size a p.1 ∧ TI ws w.heap.size b p.2.1 ∧ TI ws w.heap.size a' (nats Gi) ∧ OwnRows ws q (some ⟨b1, o1, none⟩) cP (gs.map nats) ∧ CellsOf ws w.heap.size vs (T.take i)) ∧ HH w ws [(w.heap.size, rowO 24 [.slice aS n cS, .slice aM N cM, .int .i64 L]), (bx, rowO 78 [.slice a p.1.length cA, .slice b p.2.1.length cB, .int .i64 p.2.2])] [⟨A, C * 3, 78, vs⟩])
      case atStart => exact ⟨0, ([], [], 0), none, none, 0, 0, Nat.zero_le _, rfl, rfl, Lib.hid ⟨fun _ => ⟨rfl, rfl, rfl⟩, fun h => absurd h (Nat.lt_irrefl 0), rfl⟩, Int.le_refl _, Int.le_refl _, Lib.hid ⟨TI.nil _ _, TI.nil _ _, HX.out.2.2, HX.out.1, HX.out.2.1⟩, H3.out⟩
      case round =>
        obtain ⟨k, p, a, b, cA, cB, hk, rfl, rfl, HP, hp0, hpk, HR, hh⟩ := hrel
        have Hz := Lib.hid hh
        clear hh H3 HX
        by_cases hkl : k < Gi.length
        · obtain ⟨b9, o9, hb9, _, hc9⟩ := (HR.out.2.2.1).at.open (by rw [nats_length]; omega)
          subst hb9
          obtain ⟨r, hr⟩ : ∃ r : Nat, r = Gi.getD k 0 := ⟨_, rfl⟩
          have hrm : r ∈ Gi := by rw [hr]; exact getD_mem hkl
          have c9 : wr.cell? ⟨b9, o9 + k, none⟩ = some (.int .i64 (r : Int)) := by rw [hc9 k (by rw [nats_length]; exact hkl), nats_at Gi hkl, hr]
          have HG1 := Lib.hid (HG.out.2.2 r hrm)
          have HTk : Hid ((Gi.take (k + 1)).foldl (pieStep S M n) ([], [], 0) = pieStep S M n p r) := Lib.hid (by
            rw [List.take_add_one, List.foldl_append, ← HP.out.2.2, hr, List.getD_eq_getElem?_getD, List.getElem?_eq_getElem hkl]; rfl)
          have HX1 : Hid ((codeL S M r n).length = 5 * Gi.length ∧ codeL S M r n ≠ []) := Lib.hid ⟨by rw [codeL_len, HG1.out.2], codeL_ne _ _ _ _⟩
          have HF1 := Lib.hid (HF.out r HG1.out.1)
          have HN1 := Lib.hid (HNx.out r HG1.out.1)
          have hz1 := Hz.out.cell (k := 0) (i := 0) rfl rfl
          have hz2 := Hz.out.cell (k := 0) (i := 1) rfl rfl
          have hz3 := Hz.out.cell (k := 0) (i := 2) rfl rfl
          clear hc9 hr hrm
          have HO1 : Hid ((ordL M r n).length = Gi.length) := Lib.hid HG1.out.2
          have HS1 : Hid (∀ p : Dgm, pieStep S M n p r = if p.1 = [] then (codeL S M r n, nats (ordL M r n), 1) else if cmpL (codeL S M r n) p.1 < 0 then (codeL S M r n, nats (ordL M r n), 1) else if cmpL (codeL S M r n) p.1 = 0 then (p.1, p.2.1, p.2.2 + 1) else p) := Lib.hid fun p => rfl
          clear HG1
          generalize codeL S M r n = X at *
          generalize ordL M r n = O at *
          by_cases hk0 : k = 0
          · obtain ⟨rfl, rfl, rfl⟩ := HP.out.1 hk0
            subst hk0
            rw [Nat.add_zero] at c9
            have hy1 : wr.cell? ⟨bx, 0, none⟩ = some (.slice none 0 0) := Hz.out.cell (k := 1) (i := 0) rfl rfl
            go_wp2_with fail
            clear hz1 hz2 hz3 hy1
            refine (HF1.out _ Hz.out.below).mono ?_
            rintro e w5 ⟨A5, C5, A6, C6, rfl, ho1, ho2, hb⟩
            have H5 := Lib.hid (Hz.out.call hb)
            have HO5 := Lib.hid (And.intro ho1 ho2)
            have HR5 := Lib.hid (And.intro (HR.out.2.2.1.later hb) (And.intro (HR.out.2.2.2.1.later hb (Nat.le_refl _)) (HR.out.2.2.2.2.later hb)))
            clear ho1 ho2 hb HR
            have f0 := H5.out.frozen (k := 1) rfl 0
            have f1 := H5.out.frozen (k := 1) rfl 1
            have f2 := H5.out.frozen (k := 1) rfl 2
            have y0 : w5.cell? ⟨bx, 0, none⟩ = some (.slice none 0 0) := H5.out.cell (k := 1) (i := 0) rfl rfl
            have y1 : w5.cell? ⟨bx, 1, none⟩ = some (.slice b 0 cB) := H5.out.cell (k := 1) (i := 1) rfl rfl
            have y2 : w5.cell? ⟨bx, 2, none⟩ = some (.int .i64 0) := H5.out.cell (k := 1) (i := 2) rfl rfl
            go_wp2_with fail
            have P := Lib.hid (H5.out.put3 (.slice A6 X.length C6) (.slice A5 O.length C5) (.int .i64 1))
            go_roundg (Gi.length - (0 + 1))
            case measure => omega
            case rel =>
              refine ⟨0 + 1, (X, nats O, 1), A6, A5, C6, C5, by omega, rfl, by go_num, Lib.hid ⟨fun h => absurd h (by omega), fun _ => ⟨HX1.out.1, HX1.out.2, by have := HO5.out.2.cap; rwa [ints_length] at this⟩, by rw [HTk.out, HS1.out]; rfl⟩, (show (0 : Int) ≤ 1 by decide), (show (1 : Int) ≤ ((0 + 1 : Nat) : Int) by decide), Lib.hid ⟨P.out.2.1 _ _ _ (Nat.le_refl _) (TI.own HO5.out.2), P.out.2.1 _ _ _ (Nat.le_refl _) (TI.own HO5.out.1), P.out.2.1 _ _ _ (Nat.le_refl _) HR5.out.1, P.out.2.2.2 _ _ _ _ HR5.out.2.1, P.out.2.2.1 _ _ _ (Nat.le_refl _) HR5.out.2.2⟩, ?_⟩
              show HH w _ [_, (bx, rowO 78 [.slice A6 X.length C6, .slice A5 (nats O).length C5, .int .i64 1])] _
              rw [nats_length]
              exact P.out.1
          · obtain ⟨pc, po, pr⟩ := p
            have HQ := Lib.hid (HP.out.2.1 (by omega))
            dsimp only at *
            have hy1 := Hz.out.cell (k := 1) (i := 0) rfl rfl
            go_wp2_with fail
            clear hz1 hz2 hz3 hy1
            refine (HN1.out pc a cA _ Hz.out.below HR.out.1.at HQ.out.2.2 (by rw [HO1.out]; exact HQ.out.1)).mono ?_
            rintro e w5 (⟨hgt, rfl, hb⟩ | ⟨hle, A5, C5, A6, C6, rfl, ho1, ho2, hb⟩)
            · have H5 := Lib.hid (Hz.out.call hb)
              have HR5 := Lib.hid (And.intro (HR.out.1.later hb) (And.intro (HR.out.2.1.later hb) (And.intro (HR.out.2.2.1.later hb) (And.intro (HR.out.2.2.2.1.later hb (Nat.le_refl _)) (HR.out.2.2.2.2.later hb)))))
              have HE : Hid (pieStep S M n (pc, po, pr) r = (pc, po, pr)) := Lib.hid (by rw [HS1.out, if_neg HQ.out.2.1, if_neg (by show ¬ cmpL X pc < 0; omega), if_neg (by show ¬ cmpL X pc = 0; omega)])
              clear hb HR hgt
              go_wp2_with fail
              go_roundg (Gi.length - (k + 1))
              case measure => omega
              case rel =>
                exact ⟨k + 1, (pc, po, pr), a, b, cA, cB, by omega, rfl, by go_num, Lib.hid ⟨fun h => absurd h (by omega), fun _ => HQ.out, by rw [HTk.out, HE.out]⟩, hp0, (show pr ≤ ((k + 1 : Nat) : Int) by omega), HR5, H5.out⟩
            · have H5 := Lib.hid (Hz.out.call hb)
              have HO5 := Lib.hid (And.intro ho1 ho2)
              have HR5 := Lib.hid (And.intro (HR.out.1.later hb) (And.intro (HR.out.2.1.later hb) (And.intro (HR.out.2.2.1.later hb) (And.intro (HR.out.2.2.2.1.later hb (Nat.le_refl _)) (HR.out.2.2.2.2.later hb)))))
              clear ho1 ho2 hb HR
              have f0 := H5.out.frozen (k := 1) rfl 0
              have f1 := H5.out.frozen (k := 1) rfl 1
              have f2 := H5.out.frozen (k := 1) rfl 2
              have y0 := H5.out.cell (k := 1) (i := 0) rfl rfl
              have y1 := H5.out.cell (k := 1) (i := 1) rfl rfl
              have y2 := H5.out.cell (k := 1) (i := 2) rfl rfl
              rcases cmpL_vals X pc with hv | hv | hv
              · have HE : Hid (pieStep S M n (pc, po, pr) r = (X, nats O, 1)) := Lib.hid (by rw [HS1.out, if_neg HQ.out.2.1, if_pos (by show cmpL X pc < 0; omega)])
                rw [hv]
                clear hv hle
                go_wp2_with fail
                have P := Lib.hid (H5.out.put3 (.slice A6 X.length C6) (.slice A5 O.length C5) (.int .i64 1))
                go_roundg (Gi.length - (k + 1))
                case measure => omega
                case rel =>
                  refine ⟨k + 1, (X, nats O, 1), A6, A5, C6, C5, by omega, rfl, by go_num, Lib.hid ⟨fun h => absurd h (by omega), fun _ => ⟨HX1.out.1, HX1.out.2, by have := HO5.out.2.cap; rwa [ints_length] at this⟩, by rw [HTk.out, HE.out]⟩, (show (0 : Int) ≤ 1 by decide), (show (1 : Int) ≤ ((k + 1 : Nat) : Int) by omega), Lib.hid ⟨P.out.2.1 _ _ _ (Nat.le_refl _) (TI.own HO5.out.2), P.out.2.1 _ _ _ (Nat.le_refl _) (TI.own HO5.out.1), P.out.2.1 _ _ _ (Nat.le_refl _) HR5.out.2.2.1, P.out.2.2.2 _ _ _ _ HR5.out.2.2.2.1, P.out.2.2.1 _ _ _ (Nat.le_refl _) HR5.out.2.2.2.2⟩, ?_⟩
                  show HH w _ [_, (bx, rowO 78 [.slice A6 X.length C6, .slice A5 (nats O).length C5, .int .i64 1])] _
                  rw [nats_length]
                  exact P.out.1
              · have HE : Hid (pieStep S M n (pc, po, pr) r = (pc, po, pr + 1)) := Lib.hid (by rw [HS1.out, if_neg HQ.out.2.1, if_neg (by show ¬ cmpL X pc < 0; omega), if_pos (by show cmpL X pc = 0; omega)])
                rw [hv]
                clear hv hle
                have wr1 : IntKind.i64.wrap (pr + 1) = pr + 1 := wrapi_mid (by omega) (by omega)
                go_wp2_with fail
                have P := Lib.hid (H5.out.put1 2 (.int .i64 (pr + 1)))
                go_roundg (Gi.length - (k + 1))
                case measure => omega
                case rel =>
                  exact ⟨k + 1, (pc, po, pr + 1), a, b, cA, cB, by omega, rfl, by go_num, Lib.hid ⟨fun h => absurd h (by omega), fun _ => HQ.out, by rw [HTk.out, HE.out]⟩, (show (0 : Int) ≤ pr + 1 by omega), (show pr + 1 ≤ ((k + 1 : Nat) : Int) by omega), Lib.hid ⟨P.out.2.1 _ _ _ (Nat.le_refl _) HR5.out.1, P.out.2.1 _ _ _ (Nat.le_refl _) HR5.out.2.1, P.out.2.1 _ _ _ (Nat.le_refl _) HR5.out.2.2.1, P.out.2.2.2 _ _ _ _ HR5.out.2.2.2.1, P.out.2.2.1 _ _ _ (Nat.le_refl _) HR5.out.2.2.2.2⟩, P.out.1⟩
              · omega
        · obtain rfl : k = Gi.length := by omega
          have HE : Hid (T.take (i + 1) = T.take i ++ [p]) := Lib.hid (by rw [HTi.out, HP.out.2.2, List.take_length]; rfl)
          clear HP HTi
          obtain ⟨pc, po, pr⟩ := p
          dsimp only at *
          have HC3 : Hid (CellsOf wr w.heap.size (vs ++ [.slice a pc.length cA, .slice b po.length cB, .int .i64 pr]) (T.take (i + 1))) := Lib.hid (by
            rw [HE.out]
            exact HR.out.2.2.2.2.append (CellsOf.one HR.out.1 HR.out.2.1))
          have HO3 := Lib.hid HR.out.2.2.2.1
          clear HR HE
          generalize pc.length = l1 at *
          generalize po.length = l2 at *
          have y0 := Hz.out.cell (k := 1) (i := 0) rfl rfl
          have y1 := Hz.out.cell (k := 1) (i := 1) rfl rfl
          have y2 := Hz.out.cell (k := 1) (i := 2) rfl rfl
          have Ha := Lib.hid (Hz.out.call ((Below.refl _ _).alloc (Nat.le_refl _) (.cells #[.slice a l1 cA, .slice b l2 cB, .int .i64 pr] 78)))
          have Hus : Hid (VAt (wr.alloc (.cells #[.slice a l1 cA, .slice b l2 cB, .int .i64 pr] 78)) (some ⟨wr.heap.size, 0, none⟩) [.slice a l1 cA, .slice b l2 cB, .int .i64 pr]) := Lib.hid (Row.new wr #[.slice a l1 cA, .slice b l2 cB, .int .i64 pr] 78).at
          have Hu1 : Hid (∀ u ∈ ([.slice a l1 cA, .slice b l2 cB, .int .i64 pr] : List Value), u.oneCell' = true) := Lib.hid (by
            intro u hu
            simp only [List.mem_cons, List.not_mem_nil, or_false] at hu
            rcases hu with rfl | rfl | rfl <;> rfl)
          have Hl1 := Lib.hid Ha.out.below.size
          have Hum : Hid (([.slice a l1 cA, .slice b l2 cB, .int .i64 pr] : List Value).length = 1 * 3) := Lib.hid rfl
          go_wp2_with (with_reducible refine wpList_append_wide rfl (.tmp 48) (.tmp 50) 75 75 rfl w.heap.size 78 i0 _ 56 3 Try.underlying75 Try.underlying75 hi0 hz0 hz1 (by decide) hz2 Hzc.out A i C vs rfl Hvl.out hiC (Ha.out.sl (k := 0) rfl) (some ⟨wr.heap.size, 0, none⟩) 1 1 [.slice a l1 cA, .slice b l2 cB, .int .i64 pr] rfl Hum.out Hus.out Hu1.out (by omega) (by omega) Hl1.out ?_; intro A7 e7 w7 hle hO7 hT7 hA7; have HO7a := Lib.hid hO7; have HT7a := Lib.hid hT7; have HA7a := Lib.hid hA7; clear hO7 hT7 hA7)
          have H7 := Lib.hid (Ha.out.grow (k := 0) rfl HO7a.out HT7a.out HA7a.out)
          have HO7 := Lib.hid ((HO3.out.later ((Below.refl _ _).alloc (Nat.le_refl _) _) (Nat.le_refl _)).turned (Ha.out.sl (k := 0) rfl) (show (78 : TypeId) ≠ 3 from by decide) (show (78 : TypeId) ≠ 22 from by decide) HT7a.out)
          have HC7 : Hid (CellsOf w7 w.heap.size (vs ++ [.slice a l1 cA, .slice b l2 cB, .int .i64 pr]) (T.take (i + 1))) := Lib.hid ((HC3.out.later ((Below.refl _ _).alloc (Nat.le_refl _) _)).turned (show (78 : TypeId) ≠ 3 from by decide) (Nat.le_refl _) (Ha.out.sl (k := 0) rfl) HT7a.out)
          go_roundg (gs.length - (i + 1))
          case measure => omega
          case rel =>
            refine ⟨i + 1, A7, e7, _, by omega, rfl, by go_num, rfl, hle, HO7.out, HC7.out, ?_, H7.out.forgetK (List.Sublist.cons_cons _ (List.nil_sublist _))⟩
            rw [List.length_append, Hvl.out]; show i * 3 + 3 = (i + 1) * 3; omega
    · obtain rfl : i = gs.length := by omega
      have HTl : Hid (T.length = gs.length) := Lib.hid (by rw [← HT.out, List.length_map])
      have HC0 : Hid (CellsOf wr w.heap.size vs T) := Lib.hid (by
        have g := HCl.out
        rwa [List.take_of_length_le (by rw [HTl.out]; exact Nat.le_refl _)] at g)
      have Hbd : Hid (∀ d, d ∈ T → d.1.length ≤ 1000000 ∧ d.2.1.length ≤ 1000000) := Lib.hid fun d hd => by
        rw [← HT.out] at hd
        obtain ⟨G, hG, rfl⟩ := List.mem_map.1 hd
        obtain ⟨j, hj, e⟩ := List.mem_iff_getElem.1 hG
        have g := HGl.out j hj
        rw [List.getD_eq_getElem?_getD, List.getElem?_eq_getElem hj, Option.getD_some, e] at g
        have hp := pie_is S M n g.1
        obtain ⟨r, hr, e1, e2⟩ := hp.at_
        have := g.2.2 r hr
        rw [e1, e2, codeL_len, nats_length]; omega
      clear HCl HO HGl HF HNx
      by_cases h0 : gs.length = 0
      · have HS0 : Hid (∀ W, Calls Try.prog 92 #[.slice A 0 C, .func (.func 93) #[] #[]] W fun e w' => e = .returned (.tuple #[]) ∧ w' = W) := Lib.hid fun W => sstable_none A C W
        go_wp2_with fail
        refine (HS0.out _).mono ?_
        rintro e w8 ⟨rfl, hw8⟩
        subst hw8
        go_wp2_with fail
        go_ret
        have hT0 : T = [] := List.eq_nil_of_length_eq_zero (by rw [HTl.out]; exact h0)
        subst hT0
        exact ⟨A, C, [], vs, rfl, ⟨List.Perm.refl _, fun p q h1 h2 => absurd h2 (Nat.not_lt_zero _)⟩, Hh.out.sl (k := 0) rfl, HC0.out, Hh.out.below⟩
      · have ho : Own wr w.heap.size 78 A (C * 3) vs := Hh.out.sl (k := 0) rfl
        obtain ⟨b, off, rfl, hB, _⟩ := Own.open ho (by have := Hvl.out; omega)
        have HP0 : Hid (PSt w.heap.size wr b off C wr T) := Lib.hid ⟨hB, ⟨rfl, rfl, rfl, Nat.le_refl _, fun _ _ _ => rfl⟩, vs, ho.tight, HC0.out⟩
        have HS1 : Hid (Calls Try.prog 92 #[.slice (some ⟨b, off, none⟩) gs.length C, .func (.func 93) #[] #[]] wr fun e w' => e = .returned (.tuple #[]) ∧ ∃ ys, SrtTo T ys T.length ∧ PSt w.heap.size wr b off C w' ys) := Lib.hid (by
          rw [← HTl.out]
          exact sstable_any w.heap.size b off C T wr Hbd.out (by rw [HTl.out]; omega) (by rw [HTl.out]; exact hgl) HP0.out)
        clear ho
        go_wp2_with fail
        refine HS1.out.mono ?_
        rintro e w8 ⟨rfl, ys, hsr, hps⟩
        have HY := Lib.hid (And.intro hsr hps)
        clear hsr hps
        go_wp2_with fail
        go_ret
        obtain ⟨vs8, h8, h9⟩ := HY.out.2.cells
        have hl8 : ys.length = gs.length := by rw [HY.out.1.perm.length_eq]; exact HTl.out
        exact ⟨some ⟨b, off, none⟩, C, ys, vs8, by rw [hl8]; rfl, by rw [HY.out.1.perm.length_eq]; exact HY.out.1, h8.mono hB, h9, Hh.out.below.trans ((HY.out.2.turned.below (B := w.heap.size) Hh.out.below.size fun x hx => by cases hx; exact hB))⟩
end Go.Proofs.Ytmjoijfafachhaa

namespace Go.Proofs.Ytmjoijfafachhaa
open Go Go.RowKit
theorem fac_sum {S M : List Int} {L : Int} (hv : vldB S M L = true) {p : Nat × Nat} (hp : p ∈ cutsL S M) : (facA S M p.1 p.2).1.length + (facB S M p.1 p.2).1.length ≤ S.length ∧ 0 < (facA S M p.1 p.2).1.length ∧ 0 < (facB S M p.1 p.2).1.length := by
  obtain ⟨h1, h2, h3, h4, h5, h6⟩ := (mem_cuts hv).1 hp
  have hx : p.1 < 4 * S.length := by omega
  obtain ⟨hv', hno⟩ := cut_sph hv hx h2 h3 h4 (by omega) h5 h6
  have hm := (vldB_shape hv').mates2.ok
  show (partS S (clsN (crossL M p.1 p.2) S.length (p.1 / 4))).length + (partS S (clsN (crossL M p.1 p.2) S.length (p.2 / 4))).length ≤ S.length ∧ 0 < (partS S (clsN (crossL M p.1 p.2) S.length (p.1 / 4))).length ∧ 0 < (partS S (clsN (crossL M p.1 p.2) S.length (p.2 / 4))).length
  rw [partS_len, partS_len]
  have w1 := whole_cls hm (p.1 / 4)
  have w2 := whole_cls hm (p.2 / 4)
  have hnd : (clsN (crossL M p.1 p.2) S.length (p.1 / 4) ++ clsN (crossL M p.1 p.2) S.length (p.2 / 4)).Nodup := by
    rw [List.nodup_append]
    refine ⟨w1.nd, w2.nd, fun a ha b hb e => ?_⟩
    subst e
    exact hno ((mem_clsN.1 ha).2.trans (hm.conn_symm (by omega) (mem_clsN.1 hb).2))
  have hl := hnd.length_le_of_subset (l₂ := List.range S.length) fun c hc => by
    rcases List.mem_append.1 hc with e | e
    · exact List.mem_range.2 (mem_clsN.1 e).1
    · exact List.mem_range.2 (mem_clsN.1 e).1
  rw [List.length_append, List.length_range] at hl
  exact ⟨hl, List.length_pos_of_mem (cls_self (by omega)), List.length_pos_of_mem (cls_self (by omega))⟩
theorem primeN_len : ∀ (k : Nat) (S M : List Int) (L : Int), vldB S M L = true → (primeN k S M L).length ≤ max 1 S.length := fun k => by
  induction k with
  | zero => intro S M L _; show 1 ≤ _; omega
  | succ k ih =>
    intro S M L hv
    cases h : cutsL S M with
    | nil => rw [primeN_none h]; show 1 ≤ _; omega
    | cons p l =>
      obtain ⟨_, va, vb, _, _⟩ := fac_cuts0 hv h
      obtain ⟨s1, s2, s3⟩ := fac_sum hv (p := p) (by rw [h]; exact List.mem_cons_self)
      rw [primeN_cons h, List.length_append]
      have a := ih _ _ _ va
      have b := ih _ _ _ vb
      omega
theorem primeL_len {S M : List Int} {L : Int} (hv : vldB S M L = true) : (primeL S M L).length ≤ 64 := by
  have := primeN_len S.length S M L hv
  have hf := (vldB_shape hv).few
  unfold primeL; omega
section
variable {P : Program} {ops : Array Oper} {o : Oper} {a : Act} {w : World}
/-- Append of elements of k cells at a step of a region that draws its order. -/
theorem step_append_wide {K : Act → World → Prop} {Q : Exit → Act → World → Prop} {Z : Prop} (hg : o.guard = none) (s x : Operand) (t tx : TypeId) (hop : o.op = .call { callee := .builtin .append, args := #[s, x], argTypes := #[t, tx] })
    (B : Nat) (E : TypeId) (i : TypeInfo) (z : Value) (bytes k : Nat) (h1 : P.underlying t = some (.slice E)) (h1x : P.underlying tx = some (.slice E)) (h2 : P.info? E = some i) (h3 : i.zero = some z) (h4 : i.size = k) (hk : 0 < k) (h5 : i.bytes = bytes) (hz : z.cells.size = k)
    (A : Option Addr) (n c : Nat) (vs : List Value) (hs : a.eval s = .slice A n c) (hn : vs.length = n * k) (hnc : n ≤ c) (hown : Own w B E A (c * k) vs) (ax : Option Addr) (m cx : Nat) (us : List Value) (hx : a.eval x = .slice ax m cx) (hm : us.length = m * k) (hus : VAt w ax us) (hu1 : ∀ u ∈ us, u.oneCell' = true)
    (hbytes : (n + m) * bytes ≤ 140737488355328) (h63 : n + m ≤ 9223372036854775807) (hB : B ≤ w.heap.size)
    (hK : ∀ A' c' w', n + m ≤ c' → Own w' B E A' (c' * k) (vs ++ us) → Turned w w' A → (∀ x, A' = some x → (w.heap.size ≤ x.block ∨ ∃ y, A = some y ∧ x = y)) → K (a.put o.dst (.slice A' (n + m) c')) w') :
    if Region.wanted o (yielded ops a.tmps) = true then Oper.wp P o a w K Q else Z := by
  have hw : Region.wanted o (yielded ops a.tmps) = true := by simp [Region.wanted, hg]
  rw [if_pos hw]
  obtain ⟨a', c', w', hrun, r0, r1, r2, r3⟩ := run_append_wide (P := P) w B t tx o.type E i z bytes k h1 h1x h2 h3 h4 hk h5 hz A n c vs hn hnc hown ax m cx us hm hus hu1 hbytes h63 hB
  unfold Oper.wp
  simp [execOp, hop, resolve, invoke, builtin, hs, hx, hrun, Result.andThen]
  exact hK a' c' w' r0 r1 r2 r3
end
/-- One-cell values: what lists of diagrams hold. -/
theorem CellsOf.one' {w : World} {B0 : Nat} {vs : List Value} {ds : List Dgm} (h : CellsOf w B0 vs ds) : ∀ u ∈ vs, u.oneCell' = true := fun u hu => by
  obtain ⟨j, hj, rfl⟩ := List.getElem_of_mem hu
  have hl := h.1
  have hd : j / 3 < ds.length := by omega
  obtain ⟨a, c, b, e, h1, h2, h3, _⟩ := h.2 (j / 3) _ (List.getElem?_eq_getElem hd)
  have hj3 : j % 3 = 0 ∨ j % 3 = 1 ∨ j % 3 = 2 := by omega
  rcases hj3 with g | g | g
  · rw [show j / 3 * 3 = j by omega, List.getElem?_eq_getElem hj] at h1
    rw [Option.some.inj h1]; rfl
  · rw [show j / 3 * 3 + 1 = j by omega, List.getElem?_eq_getElem hj] at h2
    rw [Option.some.inj h2]; rfl
  · rw [show j / 3 * 3 + 2 = j by omega, List.getElem?_eq_getElem hj] at h3
    rw [Option.some.inj h3]; rfl
end Go.Proofs.Ytmjoijfafachhaa

namespace Go.Proofs
open Go.Shelf
def Try.lays189_ren : Go.Shelf.Ren := ⟨fun | 189 => 74 | 125 => 87 | 257 => 86 | 128 => 106 | 129 => 107 | 294 => 97 | 295 => 98 | 296 => 99 | 297 => 100 | 298 => 101 | 299 => 102 | 216 => 103 | 300 => 104 | 301 => 105 | 328 => 110 | 329 => 111 | 330 => 112 | 331 => 113 | 332 => 114 | 215 => 115 | 343 => 118 | n => n, fun | 28 => 22 | 3 => 3 | 46 => 83 | 0 => 0 | 51 => 99 | 53 => 101 | 4 => 4 | 183 => 91 | 182 => 90 | 131 => 96 | 5 => 5 | 9 => 9 | 218 => 103 | 222 => 107 | 228 => 111 | 229 => 112 | n => n, fun | n => n⟩
theorem Try.lays189 : Go.Proofs.Lays.n189 Try.prog Try.lays189_ren := {
  mixed := by kernel_rfl
  f125 := Try.func87.trans (congrArg some (by kernel_rfl))
  f128 := Try.func106.trans (congrArg some (by kernel_rfl))
  f129 := Try.func107.trans (congrArg some (by kernel_rfl))
  f189 := Try.func74.trans (congrArg some (by kernel_rfl))
  f215 := Try.func115.trans (congrArg some (by kernel_rfl))
  f216 := Try.func103.trans (congrArg some (by kernel_rfl))
  f257 := Try.func86.trans (congrArg some (by kernel_rfl))
  f294 := Try.func97.trans (congrArg some (by kernel_rfl))
  f295 := Try.func98.trans (congrArg some (by kernel_rfl))
  f296 := Try.func99.trans (congrArg some (by kernel_rfl))
  f297 := Try.func100.trans (congrArg some (by kernel_rfl))
  f298 := Try.func101.trans (congrArg some (by kernel_rfl))
  f299 := Try.func102.trans (congrArg some (by kernel_rfl))
  f300 := Try.func104.trans (congrArg some (by kernel_rfl))
  f301 := Try.func105.trans (congrArg some (by kernel_rfl))
  f328 := Try.func110.trans (congrArg some (by kernel_rfl))
  f329 := Try.func111.trans (congrArg some (by kernel_rfl))
  f330 := Try.func112.trans (congrArg some (by kernel_rfl))
  f331 := Try.func113.trans (congrArg some (by kernel_rfl))
  f332 := Try.func114.trans (congrArg some (by kernel_rfl))
  f343 := Try.func118.trans (congrArg some (by kernel_rfl))
  t0 := Try.underlying0
  a0 := Try.isAgg0
  z0 := Try.sizeOf0
  v0 := Try.zeroValue0
  t3 := Try.underlying3
  a3 := Try.isAgg3
  z3 := Try.sizeOf3
  v3 := Try.zeroValue3
  t4 := Try.underlying4
  a4 := Try.isAgg4
  z4 := Try.sizeOf4
  v4 := Try.zeroValue4
  t5 := Try.underlying5
  a5 := Try.isAgg5
  z5 := Try.sizeOf5
  v5 := Try.zeroValue5
  t9 := Try.underlying9
  a9 := Try.isAgg9
  z9 := Try.sizeOf9
  v9 := Try.zeroValue9
  t28 := Try.underlying22
  a28 := Try.isAgg22
  z28 := Try.sizeOf22
  v28 := Try.zeroValue22
  t46 := Try.underlying83
  a46 := Try.isAgg83
  z46 := Try.sizeOf83
  v46 := Try.zeroValue83
  t51 := Try.underlying99
  a51 := Try.isAgg99
  z51 := Try.sizeOf99
  v51 := Try.zeroValue99
  t53 := Try.underlying101
  a53 := Try.isAgg101
  z53 := Try.sizeOf101
  v53 := Try.zeroValue101
  t131 := Try.underlying96
  a131 := Try.isAgg96
  z131 := Try.sizeOf96
  v131 := Try.zeroValue96
  t182 := Try.underlying90
  a182 := Try.isAgg90
  z182 := Try.sizeOf90
  v182 := Try.zeroValue90
  t183 := Try.underlying91
  a183 := Try.isAgg91
  z183 := Try.sizeOf91
  v183 := Try.zeroValue91
  t218 := Try.underlying103
  a218 := Try.isAgg103
  z218 := Try.sizeOf103
  v218 := Try.zeroValue103
  t222 := Try.underlying107
  a222 := Try.isAgg107
  z222 := Try.sizeOf107
  v222 := Try.zeroValue107
  t228 := Try.underlying111
  a228 := Try.isAgg111
  z228 := Try.sizeOf111
  v228 := Try.zeroValue111
  t229 := Try.underlying112
  a229 := Try.isAgg112
  z229 := Try.sizeOf112
  v229 := Try.zeroValue112 }
open Go.Sort Go.RowKit in
theorem Try.slices_Sort_int (blk off cap : Nat) (zs : List Int) (w : World) (hH : Holds (Value.int .i64) w blk off zs.toArray) (hblk : blk < w.heap.size) (hsz : zs.length < 4611686018427387904) :
    Calls Try.prog 74 #[.slice (some ⟨blk, off, none⟩) zs.length cap] w fun e w' =>
      e = .returned (.tuple #[]) ∧ ∃ n os, w' = grow (putRow (Value.int .i64) (Sort.ahead w n) blk off (zs.mergeSort fun x y => decide (x ≤ y)).toArray) os := Any.slices_Sort_int Try.lays189 blk off cap zs w hH hblk hsz
def Try.lays107_ren : Go.Shelf.Ren := ⟨fun | 107 => 61 | 108 => 84 | n => n, fun | 28 => 22 | 3 => 3 | 4 => 4 | 0 => 0 | n => n, fun | n => n⟩
theorem Try.lays107 : Go.Proofs.Lays.n107 Try.prog Try.lays107_ren := {
  mixed := by kernel_rfl
  f107 := Try.func61.trans (congrArg some (by kernel_rfl))
  f108 := Try.func84.trans (congrArg some (by kernel_rfl))
  t0 := Try.underlying0
  a0 := Try.isAgg0
  z0 := Try.sizeOf0
  v0 := Try.zeroValue0
  t3 := Try.underlying3
  a3 := Try.isAgg3
  z3 := Try.sizeOf3
  v3 := Try.zeroValue3
  t4 := Try.underlying4
  a4 := Try.isAgg4
  z4 := Try.sizeOf4
  v4 := Try.zeroValue4
  t28 := Try.underlying22
  a28 := Try.isAgg22
  z28 := Try.sizeOf22
  v28 := Try.zeroValue22 }
open Go.Lib in
theorem Try.slices_Contains_int (b off n c : Nat) (zs : List Int) (x : Int) (w : World) (hz : n ≤ zs.length) (hbig : n ≤ 9223372036854775807) (hc : ∀ j, j < zs.length → w.cell? ⟨b, off + j, none⟩ = some (.int .i64 (zs.getD j 0))) :
    Calls Try.prog 61 #[.slice (some ⟨b, off, none⟩) n c, .int .i64 x] w fun e w' => e = .returned (.bool ((zs.take n).contains x)) ∧ w' = w := Any.slices_Contains_int Try.lays107 b off n c zs x w hz hbig hc
def Try.lays111_ren : Go.Shelf.Ren := ⟨fun | 111 => 39 | n => n, fun | 28 => 22 | 3 => 3 | 4 => 4 | 0 => 0 | n => n, fun | n => n⟩
theorem Try.lays111 : Go.Proofs.Lays.n111 Try.prog Try.lays111_ren := {
  mixed := by kernel_rfl
  f111 := Try.func39.trans (congrArg some (by kernel_rfl))
  t0 := Try.underlying0
  a0 := Try.isAgg0
  z0 := Try.sizeOf0
  v0 := Try.zeroValue0
  t3 := Try.underlying3
  a3 := Try.isAgg3
  z3 := Try.sizeOf3
  v3 := Try.zeroValue3
  t4 := Try.underlying4
  a4 := Try.isAgg4
  z4 := Try.sizeOf4
  v4 := Try.zeroValue4
  t28 := Try.underlying22
  a28 := Try.isAgg22
  z28 := Try.sizeOf22
  v28 := Try.zeroValue22 }
open Go.RowKit Go.Lib in
theorem Try.slices_Equal_int (b1 o1 n c b2 o2 m d : Nat) (xs ys : List Int) (w : World) (hx : n ≤ xs.length) (hy : m ≤ ys.length) (hbig : n ≤ 9223372036854775807) (hbig2 : m ≤ 9223372036854775807) (hc1 : ∀ j, j < xs.length → w.cell? ⟨b1, o1 + j, none⟩ = some (.int .i64 (xs.getD j 0))) (hc2 : ∀ j, j < ys.length → w.cell? ⟨b2, o2 + j, none⟩ = some (.int .i64 (ys.getD j 0))) :
    Calls Try.prog 39 #[.slice (some ⟨b1, o1, none⟩) n c, .slice (some ⟨b2, o2, none⟩) m d] w fun e w' => e = .returned (.bool (xs.take n == ys.take m)) ∧ ∃ q, w' = w.drewN q := Any.slices_Equal_int Try.lays111 b1 o1 n c b2 o2 m d xs ys w hx hy hbig hbig2 hc1 hc2
open Go.RowKit Go.Lib in
theorem Try.slices_Equal_int_empty (a1 a2 : Option Addr) (c m d : Nat) (w : World) (hbig2 : m ≤ 9223372036854775807) :
    Calls Try.prog 39 #[.slice a1 0 c, .slice a2 m d] w fun e w' => e = .returned (.bool (decide (m = 0))) ∧ w' = w := Any.slices_Equal_int_empty Try.lays111 a1 a2 c m d w hbig2
def Try.laysNm220_ren : Go.Shelf.Ren := ⟨fun | 20 => 75 | n => n, fun | 22 => 22 | 3 => 3 | 4 => 4 | 0 => 0 | n => n, fun | n => n⟩
theorem Try.laysNm220 : Go.Proofs.Lays2.n20 Try.prog Try.laysNm220_ren := {
  mixed := by kernel_rfl
  f20 := Try.func75.trans (congrArg some (by kernel_rfl))
  t0 := Try.underlying0
  a0 := Try.isAgg0
  z0 := Try.sizeOf0
  v0 := Try.zeroValue0
  t3 := Try.underlying3
  a3 := Try.isAgg3
  z3 := Try.sizeOf3
  v3 := Try.zeroValue3
  t4 := Try.underlying4
  a4 := Try.isAgg4
  z4 := Try.sizeOf4
  v4 := Try.zeroValue4
  t22 := Try.underlying22
  a22 := Try.isAgg22
  z22 := Try.sizeOf22
  v22 := Try.zeroValue22
  i3 := by kernel_rfl }
open Go.RowKit Go.Lib Go.Sort in
theorem Try.slices_Compact_int_cells (b off n c : Nat) (zs : List Int) (w : World) (hz : n ≤ zs.length) (hbig : n ≤ 9223372036854775807) (hcap : n ≤ c) (hc : ∀ j, j < zs.length → w.cell? ⟨b, off + j, none⟩ = some (.int .i64 (zs.getD j 0))) (hf : ∀ j, j < n → w.frozen? ⟨b, off + j, none⟩ = false) :
    Calls Try.prog 75 #[.slice (some ⟨b, off, none⟩) n c] w fun e w' => e = .returned (.slice (some ⟨b, off, none⟩) (Lib.compact (zs.take n)).length c) ∧ ∃ q, w' = (w.drewN q).setCells b off ((Lib.compact (zs.take n) ++ List.replicate (n - (Lib.compact (zs.take n)).length) 0).map (Value.int .i64)) := Any.slices_Compact_int_cells Try.laysNm220 b off n c zs w hz hbig hcap hc hf
open Go.RowKit Go.Sort in
theorem Try.slices_Sort_int_none (p : Option Addr) (cap : Nat) (w : World) :
    Calls Try.prog 74 #[.slice p 0 cap] w fun e w' => e = .returned (.tuple #[]) ∧ w' = w := Any.slices_Sort_int_none Try.lays189 p cap w
open Go.RowKit Go.Lib in
theorem Try.slices_Equal_int_lens (a1 a2 : Option Addr) (n c m d : Nat) (w : World) (hnm : n ≠ m) :
    Calls Try.prog 39 #[.slice a1 n c, .slice a2 m d] w fun e w' => e = .returned (.bool false) ∧ w' = w := Any.slices_Equal_int_lens Try.lays111 a1 a2 n c m d w hnm
end Go.Proofs

namespace Go.Proofs.Ytmjoijfafachhaa
open Go Go.RowKit
/-- In order. -/
def srt (xs : List Int) : List Int := xs.mergeSort fun x y => decide (x ≤ y)
theorem srt_len (xs : List Int) : (srt xs).length = xs.length := List.length_mergeSort _
theorem srt_perm (xs : List Int) : (srt xs).Perm xs := List.mergeSort_perm _ _
theorem srt_sorted (xs : List Int) : (srt xs).Pairwise (· ≤ ·) := by
  have := List.pairwise_mergeSort (le := fun (x y : Int) => decide (x ≤ y)) (fun a b c h1 h2 => by simp at *; omega) (fun a b => by simp; omega) xs
  exact this.imp fun h => of_decide_eq_true h
theorem sort_own (xs : List Int) (a : Option Addr) (c B : Nat) (w : World) (h : Own w B 3 a c (ints xs)) (hl2 : xs.length ≤ 1000000) :
    Calls Try.prog 74 #[.slice a xs.length c] w fun e w' => e = .returned (.tuple #[]) ∧ Own w' B 3 a c (ints (srt xs)) ∧ Turned w w' a := by
  rcases Nat.eq_zero_or_pos xs.length with h0 | h0
  · obtain rfl : xs = [] := List.eq_nil_of_length_eq_zero h0
    refine (Try.slices_Sort_int_none a c w).mono ?_
    rintro e w' ⟨rfl, rfl⟩
    have hs : srt [] = [] := List.eq_nil_of_length_eq_zero (by rw [srt_len]; rfl)
    rw [hs]
    exact ⟨rfl, h, rfl, rfl, rfl, Nat.le_refl _, fun _ _ _ => rfl⟩
  rcases h with ⟨_, h, _⟩ | ⟨b, off, cur, rfl, hB, hb, h4, h5, h6⟩
  · rw [← ints_length, h] at h0; cases h0
  have hlen : (ints xs).length = xs.length := ints_length _
  have hsz : b < w.heap.size := (Array.getElem?_eq_some_iff.1 hb).1
  have hH : Go.Sort.Holds (Value.int .i64) w b off xs.toArray := fun j hj => by
    have hj' : j < xs.length := by simpa using hj
    refine ⟨?_, frozen_of_row w b _ cur 3 hb⟩
    rw [cell_of_row w b _ cur 3 (0, 0) hb, h6 j _ (ints_get xs j hj')]
    simp [nth, hj']
  refine (Try.slices_Sort_int b off c xs w hH hsz (by omega)).mono ?_
  rintro e w' ⟨rfl, n, os, rfl⟩
  have hold : ∀ k, k < w.heap.size → b ≠ k → (Go.Sort.grow (Go.Sort.putRow (Value.int .i64) (Go.Sort.ahead w n) b off (srt xs).toArray) os).heap[k]? = w.heap[k]? := fun k hk hne => by
    rw [Go.Sort.heap_grow_old _ _ (by simpa using hk)]
    simp [Go.Sort.putRow, Go.Sort.mapBlock, Go.Sort.ahead, Array.getElem?_modify, hne]
  have hnew : (Go.Sort.grow (Go.Sort.putRow (Value.int .i64) (Go.Sort.ahead w n) b off (srt xs).toArray) os).heap[b]? = some (.cells (Go.Sort.putCells (Value.int .i64) off (srt xs).toArray cur) 3 (0, 0)) := by
    rw [Go.Sort.heap_grow_old _ _ (by simpa using hsz)]
    simp [Go.Sort.putRow, Go.Sort.mapBlock, Go.Sort.ahead, Array.getElem?_modify, hb, Go.Sort.onCells]
  refine ⟨rfl, .inr ⟨b, off, _, rfl, hB, hnew, by rw [ints_length, srt_len]; omega, by simpa [Go.Sort.putCells] using h5, fun i v hv => ?_⟩, ⟨rfl, rfl, rfl, by simp, fun k hk hne => hold k hk fun e => hne _ rfl e⟩⟩
  have hi : i < (srt xs).length := by
    rcases Nat.lt_or_ge i (srt xs).length with g | g
    · exact g
    · rw [List.getElem?_eq_none (by rw [ints_length]; exact g)] at hv; cases hv
  have hi2 : i < xs.length := by rw [srt_len] at hi; exact hi
  have hoff : off + i < cur.size := by omega
  rw [ints_get _ i hi] at hv
  rw [← Option.some.inj hv]
  simp [Go.Sort.putCells, hoff, hi, nth]
end Go.Proofs.Ytmjoijfafachhaa

