/- Plain: a renumbering of the crossings, as a part. diagram.Renumber: what it answers for any diagram and any numbers. Plain: the canonical form is told by the codes of the pieces. canon.Form: the canonical form of a diagram. law05's great: whether a diagram is too great. -/
import Derived.WalkKit
import Derived.WalkSpells
import Derived.WalkLawsBesides
import Derived.Deep.AppendSrc
import Derived.Deep.LoopGhost
import Derived.Deep.QuietTactic
import Derived.Deep.RegionWith
import Derived.Deep.DeepMust
import Derived.Deep.DeepFit
import Derived.BigQuiet
import Derived.Lib.Hide
import Derived.Outline
import Derived.Test.YtmhhjchnjaefhaaDoorProg
import Derived.Deep.Matrix
import Derived.Deep.DeepCutAuto
import Derived.Deep.RegionLaw
import Derived.Deep.RegionHeld3
import Derived.Lib.SliceRun
import Derived.Shelf.Strings.Builder1
import Derived.Shelf.Small.Wraps
import Derived.Shelf.Strings.BuilderF
import Derived.Shelf.Strings.BuilderK
import Derived.Shelf.Strconv.Itoa0
import Derived.Shelf.Strconv.Itoa1
import Derived.Shelf.LaysM
import Derived.Shelf.Strconv.Itoa2
import Derived.Shelf.Strconv.Itoa3
import Derived.Shelf.Slices.Equal
import Derived.Ground.Names2Prog
import Derived.Shelf.Slices.Clone
import Derived.Shelf.Slices.SearchI
import Derived.Shelf.Slices.Empties2
import Derived.Ground.SlgnProg
import Derived.Shelf.SlicesE.Clone
import Derived.Sort.OwnSortedInts
import Derived.Shelf.Small.Bits
import Derived.Shelf.Sort.Plain
import Derived.Shelf.Slices.Turned
import Derived.Shelf.Slices.CompactI
import Derived.Shelf.Slices.Cells
import Derived.Shelf.Slices.In.SortNone
import Derived.Lib.AppendZeros
import Derived.Deep.RegionHeld
import Derived.Lib.Builder
import Derived.Lib.AppendStr
import Derived.Lib.Walk
import Derived.Laws.Externs
import Derived.Lib.AppendIntMem
import Derived.Test.YtmhhjchnjaefhaaDoorFbAa
import Derived.Test.YtmhhjchnjaefhaaDoorFbAb
import Derived.Test.YtmhhjchnjaefhaaDoorFbAc
import Derived.Test.YtmhhjchnjaefhaaDoorFbAd
import Derived.Test.YtmhhjchnjaefhaaDoorFbAe
import Derived.Test.YtmhhjchnjaefhaaDoorFbAf
import Derived.Test.YtmhhjchnjaefhaaDoorFbAg
import Derived.Test.YtmhhjchnjaefhaaDoorFbAh
import Derived.Test.YtmhhjchnjaefhaaDoorFbAi
import Derived.Test.YtmhhjchnjaefhaaDoorFbAj
import Derived.Test.YtmhhjchnjaefhaaDoorFbAk
import Derived.Test.YtmhhjchnjaefhaaDoorFbAl
import Derived.Test.YtmhhjchnjaefhaaDoorFbAm
import Derived.Test.YtmhhjchnjaefhaaDoorFbAn
import Derived.Test.YtmhhjchnjaefhaaDoorFbAq
import Derived.Test.YtmhhjchnjaefhaaDoorFbAo
namespace Go.Proofs.YtmhhjchnjaefhaaDoor
open Go Go.RowKit
/-- The numbers as crossings. -/
def natO (O : List Int) : List Nat := O.map Int.toNat
theorem natO_nats (o : List Nat) : natO (nats o) = o := by
  unfold natO nats
  rw [List.map_map]
  exact List.map_id'' (fun x => rfl) o
theorem natO_get {O : List Int} {i : Nat} (h : i < O.length) : (natO O).getD i 0 = ordN O i := by
  unfold natO ordN nth
  rw [List.getD_eq_getElem?_getD, List.getD_eq_getElem?_getD, List.getElem?_map, List.getElem?_eq_getElem h]; rfl
theorem nodup_perm_range {n : Nat} {l : List Nat} (hn : l.Nodup) (hl : ∀ c, c ∈ l → c < n) (hs : l.length = n) : l.Perm (List.range n) := by
  refine (List.perm_ext_iff_of_nodup hn List.nodup_range).2 fun c => ⟨fun h => List.mem_range.2 (hl c h), fun h => ?_⟩
  rw [List.mem_range] at h
  refine Classical.byContradiction fun hc => ?_
  have h2 : (c :: l).Nodup := List.nodup_cons.2 ⟨hc, hn⟩
  have := nodup_few n (c :: l) h2 fun d hd => by
    rcases List.mem_cons.1 hd with rfl | hd
    · exact h
    · exact hl d hd
  rw [List.length_cons] at this
  omega
/-- An order of n crossings. -/
def Ord (O : List Int) (n : Nat) : Prop := ∃ o : List Nat, O = nats o ∧ o.Perm (List.range n)
theorem numTo_free (O : List Int) (n : Nat) (c : Nat) (hc : c < n) : ∀ i, (∀ j, j < i → ordN O j ≠ c) → nth (numTo O n i) c = -1
  | 0, _ => by rw [numTo, nth_fillL _ _ _ hc]
  | i + 1, h => by
    have ih := numTo_free O n c hc i fun j hj => h j (by omega)
    rw [numTo]
    rcases Nat.lt_or_ge (ordN O i) n with g | g
    · rw [nth_set _ _ _ _ (by rw [numTo_len]; exact g), if_neg (h i (by omega))]; exact ih
    · rw [List.set_eq_of_length_le (by rw [numTo_len]; exact g)]; exact ih
theorem ordN_nats {o : List Nat} {i : Nat} (h : i < o.length) : ordN (nats o) i = o.getD i 0 := by
  rw [← natO_get (by rw [nats_length]; exact h), natO_nats]
theorem perm_good {o : List Nat} {n : Nat} (h : o.Perm (List.range n)) : ∀ i, i < n → goodAt (nats o) n i := fun i hi => by
  have hl : o.length = n := by have := h.length_eq; rwa [List.length_range] at this
  have hn : o.Nodup := h.nodup_iff.2 List.nodup_range
  have hm : o.getD i 0 < n := List.mem_range.1 (h.mem_iff.1 (getD_mem (by omega)))
  refine ⟨by rw [nats_at o (by omega)]; omega, by rw [nats_at o (by omega)]; omega, ?_⟩
  rw [ordN_nats (by omega), numTo_free _ _ _ hm i fun j hj e => ?_]
  · decide
  · rw [ordN_nats (by omega), List.getD_eq_getElem?_getD, List.getD_eq_getElem?_getD, List.getElem?_eq_getElem (by omega), List.getElem?_eq_getElem (by omega)] at e
    have := (List.getElem_inj hn).1 e
    omega
theorem good_ord {O : List Int} {n : Nat} (hl : O.length = n) (hg : ∀ i, i < n → goodAt O n i) : Ord O n := by
  refine ⟨natO O, ?_, ?_⟩
  · refine ext_nth (by rw [nats_length]; simp [natO]) fun i hi => ?_
    rw [nats_at _ (by simpa [natO] using hi), natO_get hi]
    have := (hg i (by omega)).1
    unfold ordN; omega
  · have hnl : (natO O).length = n := by simp [natO, hl]
    have hnd : (natO O).Nodup := by
      rw [List.nodup_iff_pairwise_ne, List.pairwise_iff_getElem]
      intro i j hi hj hij e
      have e1 : (natO O).getD i 0 = (natO O).getD j 0 := by
        rw [List.getD_eq_getElem?_getD, List.getD_eq_getElem?_getD, List.getElem?_eq_getElem hi, List.getElem?_eq_getElem hj, e]
      rw [natO_get (by omega), natO_get (by omega)] at e1
      have := (ordN_inj hg).inj i j (by omega) (by omega) e1
      omega
    have hlt : ∀ c, c ∈ natO O → c < n := fun c hc => by
      obtain ⟨i, hi, e⟩ := List.mem_iff_getElem.1 hc
      have e1 : (natO O).getD i 0 = c := by rw [List.getD_eq_getElem?_getD, List.getElem?_eq_getElem hi, e]; rfl
      rw [natO_get (by omega)] at e1
      rw [← e1]
      exact ordN_lt hg (by omega)
    exact nodup_perm_range hnd hlt hnl
theorem rnS_part {S : List Int} {o : List Nat} {n : Nat} (hl : o.length = n) : rnS S (nats o) n = partS S o := by
  refine ext_nth (by unfold rnS; rw [fillL_len, partS_len, hl]) fun i hi => ?_
  unfold rnS at hi ⊢
  rw [fillL_len] at hi
  rw [nth_fillL _ _ _ hi, partS_nth (by omega), ordN_nats (by omega)]
theorem rnM_part {M : List Int} {o : List Nat} {n : Nat} (hm : MateOk M n) (h : o.Perm (List.range n)) : rnM M (nats o) n = partM M o := by
  have hl : o.length = n := by have := h.length_eq; rwa [List.length_range] at this
  have hn : o.Nodup := h.nodup_iff.2 List.nodup_range
  have hg := perm_good h
  refine ext_nth (by unfold rnM; rw [fillL_len, partM_len, hl]) fun i hi => ?_
  unfold rnM at hi ⊢
  rw [fillL_len] at hi
  rw [nth_fillL _ _ _ hi, partM_nth (by omega)]
  unfold rnAt partV
  rw [ordN_nats (by omega)]
  have hc : o.getD (i / 4) 0 < n := List.mem_range.1 (h.mem_iff.1 (getD_mem (by omega)))
  have hlt : mt M (4 * o.getD (i / 4) 0 + i % 4) / 4 < n := by
    have := hm.lt (4 * o.getD (i / 4) 0 + i % 4) (by omega)
    unfold mt; omega
  obtain ⟨h1, h2, h3⟩ := num_back hg hlt
  rw [h1]
  have e : idxI o (mt M (4 * o.getD (i / 4) 0 + i % 4) / 4) = back (ordN (nats o)) n (mt M (4 * o.getD (i / 4) 0 + i % 4) / 4) := by
    unfold idxI
    generalize mt M (4 * o.getD (i / 4) 0 + i % 4) / 4 = c at *
    generalize back (ordN (nats o)) n c = b at *
    rw [ordN_nats (by omega)] at h3
    have e2 : o[b] = c := by
      rw [List.getD_eq_getElem?_getD, List.getElem?_eq_getElem (by omega)] at h3
      exact h3
    rw [← e2]
    exact hn.idxOf_getElem b (by omega)
  rw [e]
end Go.Proofs.YtmhhjchnjaefhaaDoor

namespace Go.Proofs.YtmhhjchnjaefhaaDoor
open Go Go.RowKit
theorem renum_yes (S M : List Int) (L : Int) (aS aM : Option Addr) (cS cM : Nat) (aO : Option Addr) (cO : Nat) (o : List Nat) (w : World) (hv : vldB S M L = true) (ho : o.Perm (List.range S.length)) (hS : IntsAt w aS S) (hM : IntsAt w aM M) (hO : IntsAt w aO (nats o)) :
    Calls Tryd.prog 21 #[.agg #[.slice aS S.length cS, .slice aM M.length cM, .int .i64 L], .slice aO (nats o).length cO] w fun e w' => ∃ a b c d, e = .returned (.tuple #[.agg #[.slice a S.length c, .slice b M.length d, .int .i64 L], .int .i64 0]) ∧ Own w' w.heap.size 3 a c (ints (partS S o)) ∧ Own w' w.heap.size 3 b d (ints (partM M o)) ∧ Below w.heap.size w w' := by
  have hs := vldB_shape hv
  have hl : o.length = S.length := by have := ho.length_eq; rwa [List.length_range] at this
  have hOl : (nats o).length = S.length := by rw [nats_length]; exact hl
  have g := renumber_same S M (nats o) L aS aM aO cS cM cO w hv hOl hS hM hO
  rw [hOl]
  refine g.mono ?_
  rintro e w' (⟨hn, _⟩ | ⟨_, a, b, c, d, rfl, h1, h2, hb⟩)
  · exact absurd ⟨hOl, perm_good ho⟩ hn
  · rw [rnS_part hl] at h1 ⊢
    rw [rnM_part hs.mates ho] at h2 ⊢
    refine ⟨a, b, c, d, ?_, h1, h2, hb⟩
    rw [partS_len, partM_len, hl, hs.len]
theorem renum_no (S M : List Int) (L : Int) (aS aM : Option Addr) (cS cM : Nat) (aO : Option Addr) (cO : Nat) (O : List Int) (w : World) (hv : vldB S M L = true) (hOl : O.length ≤ 1000000000) (ho : ¬ Ord O S.length) (hS : IntsAt w aS S) (hM : IntsAt w aM M) (hO : IntsAt w aO O) :
    Calls Tryd.prog 21 #[.agg #[.slice aS S.length cS, .slice aM M.length cM, .int .i64 L], .slice aO O.length cO] w fun e w' => e = .returned (.tuple #[.agg #[.slice none 0 0, .slice none 0 0, .int .i64 0], .int .i64 2]) ∧ Below w.heap.size w w' := by
  by_cases hl : O.length = S.length
  · have g := renumber_same S M O L aS aM aO cS cM cO w hv hl hS hM hO
    rw [hl]
    refine g.mono ?_
    rintro e w' (⟨_, rfl, hb⟩ | ⟨hg, _⟩)
    · exact ⟨rfl, hb⟩
    · exact absurd (good_ord hl hg.2) ho
  · refine (renumber_short S M O L aS aM aO cS cM cO w hv hOl hl hS hM hO).mono ?_
    rintro e w' (⟨_, rfl, hb⟩ | ⟨hg, _⟩)
    · exact ⟨rfl, hb⟩
    · exact absurd hg.1 hl
set_option maxRecDepth 100000 in
set_option maxHeartbeats 1000000 in
theorem renum_bad (S M : List Int) (L : Int) (aS aM : Option Addr) (cS cM : Nat) (aO : Option Addr) (cO nO : Nat) (w : World) (hSl : S.length ≤ 1000000000) (hMl : M.length ≤ 1000000000) (hv : vldB S M L = false) (hS : IntsAt w aS S) (hM : IntsAt w aM M) :
    Calls Tryd.prog 21 #[.agg #[.slice aS S.length cS, .slice aM M.length cM, .int .i64 L], .slice aO nO cO] w fun e w' => e = .returned (.tuple #[.agg #[.slice none 0 0, .slice none 0 0, .int .i64 0], .int .i64 1]) ∧ Below w.heap.size w w' := by
  have HV : Hid (∀ W', Below w.heap.size w W' → Calls Tryd.prog 18 #[.agg #[.slice aS S.length cS, .slice aM M.length cM, .int .i64 L]] W' fun e w' => e = .returned (.bool false) ∧ Below W'.heap.size W' w') := Lib.hid fun W' h => by
    have g := valid_any S M L aS aM cS cM W' (by omega) (by omega) (hS.later h) (hM.later h)
    rw [hv] at g; exact g
  have H0 := Lib.hid (((HH.start w).alloc #[.slice aS S.length cS, .slice aM M.length cM, .int .i64 L] 24 rfl rfl).alloc #[.slice none 0 0, .slice none 0 0, .int .i64 0] 24 (b := w.heap.size + 1) (by simp) rfl)
  clear hv hS hM
  generalize S.length = n at *
  generalize M.length = N at *
  go_enter Tryd.func21, Tryd.ntmps21
  have k00 := H0.out.cell (k := 0) (i := 0) rfl rfl
  have k01 := H0.out.cell (k := 0) (i := 1) rfl rfl
  have k02 := H0.out.cell (k := 0) (i := 2) rfl rfl
  go_wp2_with fail
  clear k00 k01 k02
  refine (HV.out _ H0.out.below).mono ?_
  rintro e w1 ⟨rfl, hb⟩
  have H1 := Lib.hid (H0.out.call hb)
  clear hb H0 
  have k10 := H1.out.cell (k := 1) (i := 0) rfl rfl
  have k11 := H1.out.cell (k := 1) (i := 1) rfl rfl
  have k12 := H1.out.cell (k := 1) (i := 2) rfl rfl
  have f10 := H1.out.frozen (k := 1) rfl 0
  have f11 := H1.out.frozen (k := 1) rfl 1
  have f12 := H1.out.frozen (k := 1) rfl 2
  have H9 := (((H1.out.set (k := 1) rfl 0 (.slice none 0 0)).set (k := 1) rfl 1 (.slice none 0 0)).set (k := 1) rfl 2 (.int .i64 0))
  have hF10 := H9.cell (k := 1) (i := 0) rfl rfl
  have hF11 := H9.cell (k := 1) (i := 1) rfl rfl
  have hF12 := H9.cell (k := 1) (i := 2) rfl rfl
  have Hfin := Lib.hid H9
  clear H9
  go_wp2_with fail
  refine bodyPost_ret (v := .tuple #[.agg #[.slice none 0 0, .slice none 0 0, .int .i64 0], .int .i64 1]) (by simp [results, Tryd.results21, go_sem, hF10, hF11, hF12]) rfl ?_
  exact ⟨rfl, Hfin.out.below⟩
end Go.Proofs.YtmhhjchnjaefhaaDoor

namespace Go.Proofs.YtmhhjchnjaefhaaDoor
open Go Go.RowKit
def dec1S (c : List Int) : List Int := (List.range (c.length / 5)).map fun i => nth c (5 * i)
def dec1M (c : List Int) : List Int := (List.range (4 * (c.length / 5))).map fun k => nth c (5 * (k / 4) + 1 + k % 4)
def decS (cs : List (List Int)) : List Int := cs.flatMap dec1S
def decM : List (List Int) → List Int
  | [] => []
  | c :: cs => uniM (dec1M c) (decM cs)
theorem nth_codeTo (S M : List Int) (o : List Nat) : ∀ i j t, j < i → t < 5 → nth (codeTo S M o i) (5 * j + t) = nth (rowC S M o (o.getD j 0) 4) t
  | 0, j, _, h, _ => by omega
  | i + 1, j, t, h, ht => by
    have hl := codeTo_len S M o i
    rw [codeTo_succ]
    rcases Nat.lt_or_ge j i with g | g
    · rw [nth_append_left _ _ _ (by omega)]
      exact nth_codeTo S M o i j t g ht
    · obtain rfl : j = i := by omega
      rw [nth_append_right _ _ _ (by omega), hl, show 5 * j + t - 5 * j = t by omega]
theorem rowC_nth (S M : List Int) (o : List Nat) (c : Nat) {k s : Nat} (h : s < k) : nth (rowC S M o c k) (1 + s) = ((4 * o.idxOf (mt M (4 * c + s) / 4) + mt M (4 * c + s) % 4 : Nat) : Int) := by
  unfold rowC nth
  rw [List.getD_eq_getElem?_getD, Nat.add_comm, List.getElem?_cons_succ, List.getElem?_map, List.getElem?_range h]
  rfl
theorem dec1S_code (S M : List Int) (r n : Nat) : dec1S (codeL S M r n) = partS S (ordL M r n) := by
  have hl := codeL_len S M r n
  refine ext_nth (by simp [dec1S, partS_len, hl]) fun i hi => ?_
  have hi2 : i < (ordL M r n).length := by
    simp [dec1S, hl] at hi; omega
  rw [partS_nth hi2]
  have e : nth (dec1S (codeL S M r n)) i = nth (codeL S M r n) (5 * i) := by
    unfold dec1S
    rw [show nth ((List.range ((codeL S M r n).length / 5)).map fun i => nth (codeL S M r n) (5 * i)) i = _ from nth_row _ _ _ (by omega)]
  rw [e]
  have := nth_codeTo S M (ordL M r n) (ordL M r n).length i 0 hi2 (by omega)
  exact this
theorem dec1M_code (S M : List Int) (r n : Nat) : dec1M (codeL S M r n) = partM M (ordL M r n) := by
  have hl := codeL_len S M r n
  refine ext_nth (by simp [dec1M, partM_len, hl]) fun k hk => ?_
  have hk2 : k < 4 * (ordL M r n).length := by
    simp [dec1M, hl] at hk; omega
  rw [partM_nth hk2]
  have e : nth (dec1M (codeL S M r n)) k = nth (codeL S M r n) (5 * (k / 4) + 1 + k % 4) := by
    unfold dec1M
    exact nth_row _ _ _ (by omega)
  rw [e]
  have := nth_codeTo S M (ordL M r n) (ordL M r n).length (k / 4) (1 + k % 4) (by omega) (by omega)
  rw [← Nat.add_assoc] at this
  unfold codeL
  rw [this, rowC_nth S M _ _ (by omega)]
  unfold partV idxI
  omega
/-- A piece of a diagram. -/
structure PieOk (S M : List Int) (n : Nat) (p : Dgm) : Prop where
  code : dec1S p.1 = partS S (natO p.2.1) ∧ dec1M p.1 = partM M (natO p.2.1)
  whole : Whole M n (natO p.2.1)
def Apart (p q : Dgm) : Prop := ∀ c, c ∈ natO p.2.1 → c ∉ natO q.2.1
def flO (ys : List Dgm) : List Nat := ys.flatMap fun p => natO p.2.1
theorem form_list {S M : List Int} {n : Nat} : ∀ (ys : List Dgm), (∀ p, p ∈ ys → PieOk S M n p) → ys.Pairwise Apart → partS S (flO ys) = decS (ys.map fun p => p.1) ∧ partM M (flO ys) = decM (ys.map fun p => p.1) ∧ Whole M n (flO ys)
  | [], _, _ => ⟨rfl, rfl, ⟨fun c h => by simp [flO] at h, by simp [flO], fun c h => by simp [flO] at h⟩⟩
  | p :: ys, h, hp => by
    rw [List.pairwise_cons] at hp
    obtain ⟨i1, i2, i3⟩ := form_list ys (fun q hq => h q (List.mem_cons_of_mem _ hq)) hp.2
    have hk := h p List.mem_cons_self
    have e : flO (p :: ys) = natO p.2.1 ++ flO ys := by unfold flO; rw [List.flatMap_cons]
    have hd : ∀ c, c ∈ natO p.2.1 → c ∉ flO ys := fun c hc hf => by
      obtain ⟨q, hq, hcq⟩ := List.mem_flatMap.1 hf
      exact hp.1 q hq c hc hcq
    rw [e]
    refine ⟨?_, ?_, ⟨fun c hc => ?_, ?_, fun c hc d hcd => ?_⟩⟩
    · rw [partS_append, i1, ← hk.code.1, List.map_cons]
      unfold decS
      rw [List.flatMap_cons]
    · rw [← part_union hk.whole i3 hd, i2, ← hk.code.2, List.map_cons]
      rfl
    · rcases List.mem_append.1 hc with g | g
      · exact hk.whole.lt c g
      · exact i3.lt c g
    · rw [List.nodup_append]
      exact ⟨hk.whole.nd, i3.nd, fun a ha b hb e => hd a ha (e ▸ hb)⟩
    · rcases List.mem_append.1 hc with g | g
      · exact List.mem_append_left _ (hk.whole.cl c g d hcd)
      · exact List.mem_append_right _ (i3.cl c g d hcd)
noncomputable def fmS (S M : List Int) : List Int := decS (codesL S M S.length)
noncomputable def fmM (S M : List Int) : List Int := decM (codesL S M S.length)
theorem form_plain {S M : List Int} {L : Int} (hs : Shape S M L) {ys : List Dgm} (h : SrtTo ((grpOf M S.length).map (pieOf S M S.length)) ys ys.length) :
    (flO ys).Perm (List.range S.length) ∧ partS S (flO ys) = fmS S M ∧ partM M (flO ys) = fmM S M := by
  have hmo := hs.mates
  have hm : ∀ x, x < 4 * S.length → mt M x < 4 * S.length := fun x hx => hs.mt_lt hx
  have hpG : ∀ G, G ∈ grpOf M S.length → (natO (pieOf S M S.length G).2.1).Perm G ∧ PieOk S M S.length (pieOf S M S.length G) := fun G hG => by
    have hw := grp_whole hmo hG
    obtain ⟨r, hr, e1, e2⟩ := (pie_is S M S.length hw.2).at_
    have hp := ordL_perm hmo hm hG hr
    have e3 : natO (pieOf S M S.length G).2.1 = ordL M r S.length := by rw [e2, natO_nats]
    refine ⟨by rw [e3]; exact hp, ⟨?_, ?_⟩⟩
    · rw [e3, e1]; exact ⟨dec1S_code _ _ _ _, dec1M_code _ _ _ _⟩
    · rw [e3]
      exact ⟨fun c hc => hw.1.lt c (hp.mem_iff.1 hc), hp.nodup_iff.2 hw.1.nd, fun c hc d hcd => hp.mem_iff.2 (hw.1.cl c (hp.mem_iff.1 hc) d hcd)⟩
  have hok : ∀ p, p ∈ ys → PieOk S M S.length p := fun p hp => by
    obtain ⟨G, hG, rfl⟩ := List.mem_map.1 (h.perm.mem_iff.1 hp)
    exact (hpG G hG).2
  have hpw : ((grpOf M S.length).map (pieOf S M S.length)).Pairwise Apart := by
    rw [List.pairwise_map]
    refine List.Pairwise.imp_of_mem (fun {G H} hG hH hne c hc hd => hne ?_) (List.nodup_iff_pairwise_ne.1 (grp_nodup hmo))
    have h1 := (hpG G hG).1.mem_iff.1 hc
    have h2 := (hpG H hH).1.mem_iff.1 hd
    have hl := (grp_whole hmo hG).1.lt c h1
    rw [grp_of hmo hl hG h1, grp_of hmo hl hH h2]
  have hap : ys.Pairwise Apart := (h.perm.symm.pairwise_iff (fun {p q} (g : Apart p q) => fun c hc hd => g c hd hc)).1 hpw
  obtain ⟨f1, f2, f3⟩ := form_list ys hok hap
  have hc := (srtTo_codes h).1
  refine ⟨(List.perm_ext_iff_of_nodup f3.nd List.nodup_range).2 fun c => ⟨fun hc => List.mem_range.2 (f3.lt c hc), fun hc => ?_⟩, ?_, ?_⟩
  · have hc := List.mem_range.1 hc
    have hg := grp_has hmo c hc
    refine List.mem_flatMap.2 ⟨pieOf S M S.length (clsN M S.length c), h.perm.mem_iff.2 (List.mem_map.2 ⟨_, hg, rfl⟩), (hpG _ hg).1.mem_iff.2 (cls_self hc)⟩
  · unfold fmS; rw [f1, hc]
  · unfold fmM; rw [f2, hc]
/-- Pieces can be sorted. -/
theorem srt_some (T : List Dgm) : ∃ ys, SrtTo T ys ys.length := by
  have tr : ∀ a b c : Dgm, decide (pc a b ≤ 0) = true → decide (pc b c ≤ 0) = true → decide (pc a c ≤ 0) = true := fun a b c h g => decide_eq_true (pc_trans (of_decide_eq_true h) (of_decide_eq_true g))
  have tt : ∀ a b : Dgm, (decide (pc a b ≤ 0) || decide (pc b a ≤ 0)) = true := fun a b => by
    rw [Bool.or_eq_true, decide_eq_true_eq, decide_eq_true_eq, pc_swap a b]; omega
  have hs := List.pairwise_mergeSort tr tt T
  refine ⟨T.mergeSort fun a b => decide (pc a b ≤ 0), List.mergeSort_perm _ _, fun p q h1 h2 => ?_⟩
  have := List.pairwise_iff_getElem.1 hs p q (by omega) h2 h1
  have e : ∀ j (hj : j < (T.mergeSort fun a b => decide (pc a b ≤ 0)).length), dg (T.mergeSort fun a b => decide (pc a b ≤ 0)) j = (T.mergeSort fun a b => decide (pc a b ≤ 0))[j] := fun j hj => by
    have := dg_get hj; rw [List.getElem?_eq_getElem hj] at this; exact (Option.some.inj this).symm
  rw [e p (by omega), e q h2]
  exact of_decide_eq_true this
/-- The orders of the first i pieces as numbers. -/
def flY (ys : List Dgm) (i : Nat) : List Int := (ys.take i).flatMap fun p => p.2.1
theorem flY_succ {ys : List Dgm} {i : Nat} (h : i < ys.length) : flY ys (i + 1) = flY ys i ++ (ys.getD i ([], [], 0)).2.1 := by
  unfold flY
  rw [List.take_add_one, getD_some (d := ([], [], 0)) h, List.flatMap_append]; simp
theorem flY_all {S M : List Int} {n : Nat} {ys : List Dgm} (h : SrtTo ((grpOf M n).map (pieOf S M n)) ys ys.length) : flY ys ys.length = nats (flO ys) := by
  unfold flY flO nats
  rw [List.take_length, List.map_flatMap]
  rw [List.flatMap_def, List.flatMap_def]
  congr 1
  refine List.map_congr_left fun p hp => ?_
  obtain ⟨G, hG, rfl⟩ := List.mem_map.1 (h.perm.mem_iff.1 hp)
  obtain ⟨c, hc, rfl⟩ := List.mem_map.1 hG
  obtain ⟨r, hr, e1, e2⟩ := (pie_is S M n (cls_pos (M := M) (n := n) (mem_leadsN.1 hc).1)).at_
  rw [e2, natO_nats]; rfl
theorem flY_few {ys : List Dgm} {k : Nat} (h : ∀ p, p ∈ ys → p.2.1.length ≤ k) : ∀ i, i ≤ ys.length → (flY ys i).length ≤ i * k := fun i => by
  induction i with
  | zero => intro _; simp [flY]
  | succ i ih =>
    intro hi
    have h1 := ih (by omega)
    have h2 := h (ys.getD i ([], [], 0)) (by rw [List.getD_eq_getElem?_getD, List.getElem?_eq_getElem (by omega)]; exact List.getElem_mem _)
    rw [flY_succ (by omega), List.length_append, Nat.add_mul]
    omega
end Go.Proofs.YtmhhjchnjaefhaaDoor

namespace Go.Proofs.YtmhhjchnjaefhaaDoor
open Go Go.RowKit
set_option maxRecDepth 100000 in
set_option maxHeartbeats 1000000 in
theorem form_yes (S M : List Int) (L : Int) (aS aM : Option Addr) (cS cM : Nat) (w : World) (hv : vldB S M L = true) (h20 : S.length ≤ 20) (hS : IntsAt w aS S) (hM : IntsAt w aM M) :
    Calls Tryd.prog 26 #[.agg #[.slice aS S.length cS, .slice aM M.length cM, .int .i64 L]] w fun e w' => ∃ a b c d, e = .returned (.tuple #[.agg #[.slice a S.length c, .slice b M.length d, .int .i64 L], .int .i64 0]) ∧ Own w' w.heap.size 3 a c (ints (fmS S M)) ∧ Own w' w.heap.size 3 b d (ints (fmM S M)) ∧ Below w.heap.size w w' := by
  have hs := vldB_shape hv
  have hMl := hs.len
  have HV : Hid (∀ W', Below w.heap.size w W' → Calls Tryd.prog 18 #[.agg #[.slice aS S.length cS, .slice aM M.length cM, .int .i64 L]] W' fun e w' => e = .returned (.bool true) ∧ Below W'.heap.size W' w') := Lib.hid fun W' h => by
    have g := valid_any S M L aS aM cS cM W' (by omega) (by omega) (hS.later h) (hM.later h)
    rw [hv] at g; exact g
  have HP : Hid (∀ W', Below w.heap.size w W' → Calls Tryd.prog 44 #[.agg #[.slice aS S.length cS, .slice aM M.length cM, .int .i64 L]] W' fun e w' => ∃ A C ys, e = .returned (.slice A ys.length C) ∧ Hid ((∃ o : List Nat, flY ys ys.length = nats o ∧ o.Perm (List.range S.length) ∧ partS S o = fmS S M ∧ partM M o = fmM S M) ∧ ys.length ≤ 20 ∧ ∀ i, i < ys.length → (ys.getD i ([], [], 0)).1.length ≤ 100 ∧ (ys.getD i ([], [], 0)).2.1.length ≤ 20 ∧ (flY ys i).length ≤ 400) ∧ RdD w' A ys ∧ Below W'.heap.size W' w') := Lib.hid fun W' h => by
    refine (cpieces_any S M L aS aM cS cM W' hv h20 (hS.later h) (hM.later h)).mono ?_
    rintro e w' ⟨A, C, ys, vs, rfl, hsr, ho, hc, hb⟩
    have hfew : ∀ p, p ∈ ys → p.1.length ≤ 100 ∧ p.2.1.length ≤ 20 := fun p hp => by
      have := piece_few (fun x hx => hs.mt_lt hx) hsr hp
      omega
    have hyl : ys.length ≤ 20 := by
      rw [hsr.perm.length_eq, List.length_map]; exact Nat.le_trans (grp_len M S.length) h20
    obtain ⟨f1, f2, f3⟩ := form_plain hs hsr
    refine ⟨A, C, ys, rfl, Lib.hid ⟨⟨flO ys, flY_all hsr, f1, f2, f3⟩, hyl, fun i hi => ?_⟩, hc.rd ho, hb⟩
    have hm : ys.getD i ([], [], 0) ∈ ys := by rw [List.getD_eq_getElem?_getD, List.getElem?_eq_getElem hi]; exact List.getElem_mem _
    have h3 := flY_few (fun p hp => (hfew p hp).2) i (Nat.le_of_lt hi)
    have h4 := Nat.mul_le_mul (show i ≤ 20 by omega) (Nat.le_refl 20)
    exact ⟨(hfew _ hm).1, (hfew _ hm).2, by omega⟩
  have HRn : Hid (∀ (o : List Nat) (aO : Option Addr) (cO : Nat) W', Below w.heap.size w W' → o.Perm (List.range S.length) → IntsAt W' aO (nats o) → Calls Tryd.prog 21 #[.agg #[.slice aS S.length cS, .slice aM M.length cM, .int .i64 L], .slice aO (nats o).length cO] W' fun e w' => ∃ a b c d, e = .returned (.tuple #[.agg #[.slice a S.length c, .slice b M.length d, .int .i64 L], .int .i64 0]) ∧ Own w' W'.heap.size 3 a c (ints (partS S o)) ∧ Own w' W'.heap.size 3 b d (ints (partM M o)) ∧ Below W'.heap.size W' w') := Lib.hid fun o aO cO W' h hp hO => renum_yes S M L aS aM cS cM aO cO o W' hv hp (hS.later h) (hM.later h) hO
  obtain ⟨i0, hi0, hz0, hz1, hz2⟩ := info_parts Tryd.info3
  have H0 := Lib.hid (((HH.start w).alloc #[.slice aS S.length cS, .slice aM M.length cM, .int .i64 L] 24 rfl rfl).alloc #[.slice none 0 0, .slice none 0 0, .int .i64 0] 24 (b := w.heap.size + 1) (by simp) rfl)
  clear hv hS hM hs hMl h20
  generalize fmS S M = FSz at *
  generalize fmM S M = FM at *
  generalize S.length = n at *
  generalize M.length = N at *
  go_enter Tryd.func26, Tryd.ntmps26
  have k00 := H0.out.cell (k := 0) (i := 0) rfl rfl
  have k01 := H0.out.cell (k := 0) (i := 1) rfl rfl
  have k02 := H0.out.cell (k := 0) (i := 2) rfl rfl
  go_wp2_with fail
  clear k00 k01 k02
  refine (HV.out _ H0.out.below).mono ?_
  rintro e w1 ⟨rfl, hb⟩
  have H1 := Lib.hid (H0.out.call hb)
  clear hb H0 HV
  have k00 := H1.out.cell (k := 0) (i := 0) rfl rfl
  have k01 := H1.out.cell (k := 0) (i := 1) rfl rfl
  have k02 := H1.out.cell (k := 0) (i := 2) rfl rfl
  go_wp2_with fail
  clear k00 k01 k02
  refine (HP.out _ H1.out.below).mono ?_
  rintro e w2 ⟨A, C, ys, rfl, HY, hrd, hb⟩
  have H2 := Lib.hid (H1.out.call hb)
  have HR := Lib.hid hrd
  have O2 : Hid (∀ W', Below w2.heap.size w2 W' → HH w W' [(w.heap.size, rowO 24 [.slice aS n cS, .slice aM N cM, .int .i64 L]), (w.heap.size + 1, rowO 24 [.slice none 0 0, .slice none 0 0, .int .i64 0])] []) := Lib.hid fun W' h => H2.out.call h
  clear hrd hb H1 HP
  have hyl : ys.length ≤ 20 := HY.out.2.1
  have HBw := Lib.hid H2.out.below
  have J0 : Hid (HH w2 w2 [] [⟨none, 0, 3, ints (flY ys 0)⟩]) := Lib.hid ((HH.start w2).addNil 3)
  clear H2
  go_wp2_with fail
  go_loopg [14, 4] ys.length (fun g v s4 wr => ∃ (i : Nat) (A2 : Option Addr) (d : Nat), i ≤ ys.length ∧ g = ys.length - i ∧ v = .int .i64 i ∧ s4 = .slice A2 (flY ys i).length d ∧ HH w2 wr [] [⟨A2, d, 3, ints (flY ys i)⟩])
  case atStart => exact ⟨0, none, 0, Nat.zero_le _, rfl, rfl, rfl, J0.out⟩
  case round =>
    obtain ⟨i, A2, d, hi, rfl, rfl, rfl, hh⟩ := hrel
    have Jr := Lib.hid hh
    clear hh J0
    by_cases hil : i < ys.length
    · obtain ⟨b, o, a, c, e, f, rfl, g1, g2, g3, h4, h5⟩ := HR.out i _ (getD_some (d := ([], [], 0)) hil)
      have h1 := (Jr.out.below.cell (p := ⟨b, o + i * 3, none⟩) (World.block_lt_of_cell? _ _ g1)).trans g1
      have h2 := (Jr.out.below.cell (p := ⟨b, o + i * 3 + 1, none⟩) (World.block_lt_of_cell? _ _ g2)).trans g2
      have h3 := (Jr.out.below.cell (p := ⟨b, o + i * 3 + 2, none⟩) (World.block_lt_of_cell? _ _ g3)).trans g3
      clear g1 g2 g3
      have HC2 := Lib.hid (flY_succ hil)
      obtain ⟨hb1, hb2, hb3⟩ := HY.out.2.2 i hil
      generalize ys.getD i ([], [], 0) = dd at *
      obtain ⟨Xd, Yd, r3⟩ := dd
      dsimp only at *
      have HI := Lib.hid h5
      clear h4 h5
      have hX : Hid ((ints Yd).length = Yd.length * 1) := Lib.hid (by rw [ints_length, Nat.mul_one])
      have Hcy : Hid ((ints (flY ys i)).length = (flY ys i).length) := Lib.hid (by rw [ints_length])
      have Hl2 : Hid ((flY ys (i + 1)).length = (flY ys i).length + Yd.length) := Lib.hid (by rw [HC2.out, List.length_append])
      generalize flY ys i = cy at *
      generalize cy.length = ly at *
      generalize Xd.length = l1 at *
      generalize Yd.length = l2 at *
      have K0 := Lib.hid (Jr.out.alloc #[.slice a l1 c, .slice e l2 f, .int .i64 r3] 51 (b := wr.heap.size) rfl rfl)
      go_upto_region 7 with fail
      clear h1 h2 h3 Jr
      generalize wr.alloc (.cells #[.slice a l1 c, .slice e l2 f, .int .i64 r3] 51) = v1 at *
      generalize wr.heap.size = q at *
      have y1 := K0.out.cell (k := 0) (i := 1) rfl rfl
      have Hus : Hid (VAt v1 e (ints Yd)) := Lib.hid (HI.out.later K0.out.below)
      have Hu1 : Hid (∀ u ∈ ints Yd, u.oneCell' = true) := Lib.hid (by
        intro u hu
        obtain ⟨x, _, rfl⟩ := List.mem_map.1 hu
        rfl)
      have Hl1 := Lib.hid K0.out.below.size
      have HO1 : Hid (Own v1 w2.heap.size 3 A2 (d * 1) (ints cy)) := Lib.hid (by rw [Nat.mul_one]; exact K0.out.sl (k := 0) rfl)
      have Hvl : Hid ((ints cy).length = ly * 1) := Lib.hid (by rw [Hcy.out, Nat.mul_one])
      have hdc : ly ≤ d := by have := HO1.out.size; have := Hvl.out; omega
      have Hzc : Hid ((Value.int .i64 0).cells.size = 1) := Lib.hid rfl
      go_wp2_with (with_reducible refine wpList_append_wide rfl (.tmp 18) (.tmp 20) 22 22 rfl w2.heap.size 3 i0 _ 8 1 Tryd.underlying22 Tryd.underlying22 hi0 hz0 hz1 (by decide) hz2 Hzc.out A2 ly d (ints cy) rfl Hvl.out hdc HO1.out e l2 f (ints Yd) rfl hX.out Hus.out Hu1.out (by omega) (by omega) Hl1.out ?_; intro A7 e7 w8 hle hO7 hT7 hA7; have HO7 := Lib.hid hO7; have HT7 := Lib.hid hT7; have HA7 := Lib.hid hA7; clear hO7 hT7 hA7)
      have J9 : Hid (HH w2 w8 [] [⟨A7, e7, 3, ints (flY ys (i + 1))⟩]) := Lib.hid (by
        have ho := HO7.out
        rw [Nat.mul_one] at ho
        have h := K0.out.grow (k := 0) rfl ho HT7.out HA7.out
        have e : ints cy ++ ints Yd = ints (flY ys (i + 1)) := by rw [HC2.out]; simp only [ints, List.map_append]
        rw [← e]
        exact h.forgetK (List.nil_sublist _))
      go_roundg (ys.length - (i + 1))
      case measure => omega
      case rel => exact ⟨i + 1, A7, e7, by omega, rfl, by go_num, by rw [Hl2.out], J9.out⟩
    · obtain rfl : i = ys.length := by omega
      obtain ⟨o, e1, hp, e2, e3⟩ := HY.out.1
      rw [e1] at Jr
      rw [e1]
      have HRx := Lib.hid (HRn.out o A2 d wr (O2.out _ Jr.out.below).below hp (Jr.out.sl (k := 0) rfl).ints)
      have Hw := Lib.hid (O2.out _ Jr.out.below)
      rw [e2, e3] at HRx
      clear e1 e2 e3 hp HRn HY
      generalize (nats o).length = no at *
      have k0 := Hw.out.cell (k := 0) (i := 0) rfl rfl
      have k1 := Hw.out.cell (k := 0) (i := 1) rfl rfl
      have k2 := Hw.out.cell (k := 0) (i := 2) rfl rfl
      go_wp2_with fail
      clear k0 k1 k2
      refine HRx.out.mono ?_
      rintro e w5 ⟨a5, b5, c5, d5, rfl, ho1, ho2, hb⟩
      have H5 := Lib.hid (Hw.out.call hb)
      have HO5 := Lib.hid (And.intro ho1 ho2)
      have HS5 : Hid (w.heap.size + 1 < wr.heap.size) := Lib.hid (Hw.out.lt (x := (w.heap.size + 1, rowO 24 [.slice none 0 0, .slice none 0 0, .int .i64 0])) (by simp))
      clear ho1 ho2 hb Hw Jr
      have f0 := H5.out.frozen (k := 1) rfl 0
      have f1 := H5.out.frozen (k := 1) rfl 1
      have f2 := H5.out.frozen (k := 1) rfl 2
      have y0 := H5.out.cell (k := 1) (i := 0) rfl rfl
      have y1 := H5.out.cell (k := 1) (i := 1) rfl rfl
      have y2 := H5.out.cell (k := 1) (i := 2) rfl rfl
      have H9 := ((H5.out.set (k := 1) rfl 0 (.slice a5 n c5)).set (k := 1) rfl 1 (.slice b5 N d5)).set (k := 1) rfl 2 (.int .i64 L)
      have hF0 := H9.cell (k := 1) (i := 0) rfl rfl
      have hF1 := H9.cell (k := 1) (i := 1) rfl rfl
      have hF2 := H9.cell (k := 1) (i := 2) rfl rfl
      have Hfin := Lib.hid H9
      have Hko : Hid (∀ (a : Option Addr) (c : Nat) (xs : List Int), Own w5 wr.heap.size 3 a c (ints xs) → Own (((w5.setCell ⟨w.heap.size + 1, 0, none⟩ (.slice a5 n c5)).setCell ⟨w.heap.size + 1, 1, none⟩ (.slice b5 N d5)).setCell ⟨w.heap.size + 1, 2, none⟩ (.int .i64 L)) w.heap.size 3 a c (ints xs)) := Lib.hid fun a c xs h => (h.kept fun x hx => by
        have h1 := (h.lt hx).1
        have h2 := HS5.out
        rw [Below.heap_setCell _ _ _ _ (by show x.block ≠ w.heap.size + 1; omega), Below.heap_setCell _ _ _ _ (by show x.block ≠ w.heap.size + 1; omega), Below.heap_setCell _ _ _ _ (by show x.block ≠ w.heap.size + 1; omega)]).mono (by have := HS5.out; omega)
      clear H9
      go_wp2_with fail
      refine bodyPost_ret (v := .tuple #[.agg #[.slice a5 n c5, .slice b5 N d5, .int .i64 L], .int .i64 0]) (by simp [results, Tryd.results26, go_sem, hF0, hF1, hF2]) rfl ?_
      exact ⟨a5, b5, c5, d5, rfl, Hko.out _ _ _ HO5.out.1, Hko.out _ _ _ HO5.out.2, Hfin.out.below⟩
end Go.Proofs.YtmhhjchnjaefhaaDoor

namespace Go.Proofs.YtmhhjchnjaefhaaDoor
open Go Go.RowKit
/-- More than 20 crossings or 80 half-edges. -/
def greatB (S M : List Int) (_ : Int) : Bool := decide (20 < S.length) || decide (80 < M.length)
theorem greatB_no {S M : List Int} {L : Int} (h : greatB S M L = false) : S.length ≤ 20 ∧ M.length ≤ 80 := by
  unfold greatB at h
  simp only [Bool.or_eq_false_iff, decide_eq_false_iff_not] at h
  omega
set_option maxRecDepth 100000 in
set_option maxHeartbeats 1000000 in
theorem great_a (S M : List Int) (L : Int) (aS aM : Option Addr) (cS cM : Nat) (w : World) (h : 20 < S.length) :
    Calls Tryd.prog 12 #[.agg #[.slice aS S.length cS, .slice aM M.length cM, .int .i64 L]] w fun e w' => e = .returned (.bool true) ∧ Below w.heap.size w w' := by
  have t1 : decide ((20 : Int) < (S.length : Int)) = true := decide_eq_true (by omega)
  have t2 : decide (20 < S.length) = true := decide_eq_true h
  have H0 := Lib.hid ((HH.start w).alloc #[.slice aS S.length cS, .slice aM M.length cM, .int .i64 L] 24 rfl rfl)
  clear h
  generalize S.length = n at *
  generalize M.length = N at *
  go_enter Tryd.func12, Tryd.ntmps12
  have k00 := H0.out.cell (k := 0) (i := 0) rfl rfl
  have k01 := H0.out.cell (k := 0) (i := 1) rfl rfl
  have k02 := H0.out.cell (k := 0) (i := 2) rfl rfl
  go_wp2_with fail
  go_ret
  exact ⟨rfl, H0.out.below⟩
set_option maxRecDepth 100000 in
set_option maxHeartbeats 1000000 in
theorem great_b (S M : List Int) (L : Int) (aS aM : Option Addr) (cS cM : Nat) (w : World) (h : S.length ≤ 20) (h2 : 80 < M.length) :
    Calls Tryd.prog 12 #[.agg #[.slice aS S.length cS, .slice aM M.length cM, .int .i64 L]] w fun e w' => e = .returned (.bool true) ∧ Below w.heap.size w w' := by
  have t1 : decide ((20 : Int) < (S.length : Int)) = false := decide_eq_false (by omega)
  have t2 : decide (20 < S.length) = false := decide_eq_false (by omega)
  have t3 : decide ((80 : Int) < (M.length : Int)) = true := decide_eq_true (by omega)
  have t4 : decide (80 < M.length) = true := decide_eq_true h2
  have H0 := Lib.hid ((HH.start w).alloc #[.slice aS S.length cS, .slice aM M.length cM, .int .i64 L] 24 rfl rfl)
  clear h h2
  generalize S.length = n at *
  generalize M.length = N at *
  go_enter Tryd.func12, Tryd.ntmps12
  have k00 := H0.out.cell (k := 0) (i := 0) rfl rfl
  have k01 := H0.out.cell (k := 0) (i := 1) rfl rfl
  have k02 := H0.out.cell (k := 0) (i := 2) rfl rfl
  go_wp2_with fail
  go_ret
  exact ⟨rfl, H0.out.below⟩
set_option maxRecDepth 100000 in
set_option maxHeartbeats 1000000 in
theorem great_c (S M : List Int) (L : Int) (aS aM : Option Addr) (cS cM : Nat) (w : World) (h : S.length ≤ 20) (h2 : M.length ≤ 80) :
    Calls Tryd.prog 12 #[.agg #[.slice aS S.length cS, .slice aM M.length cM, .int .i64 L]] w fun e w' => e = .returned (.bool false) ∧ Below w.heap.size w w' := by
  have t1 : decide ((20 : Int) < (S.length : Int)) = false := decide_eq_false (by omega)
  have t2 : decide (20 < S.length) = false := decide_eq_false (by omega)
  have t3 : decide ((80 : Int) < (M.length : Int)) = false := decide_eq_false (by omega)
  have t4 : decide (80 < M.length) = false := decide_eq_false (by omega)
  have H0 := Lib.hid ((HH.start w).alloc #[.slice aS S.length cS, .slice aM M.length cM, .int .i64 L] 24 rfl rfl)
  clear h h2
  generalize S.length = n at *
  generalize M.length = N at *
  go_enter Tryd.func12, Tryd.ntmps12
  have k00 := H0.out.cell (k := 0) (i := 0) rfl rfl
  have k01 := H0.out.cell (k := 0) (i := 1) rfl rfl
  have k02 := H0.out.cell (k := 0) (i := 2) rfl rfl
  go_wp2_with fail
  go_ret
  exact ⟨rfl, H0.out.below⟩
theorem great_any (S M : List Int) (L : Int) (aS aM : Option Addr) (cS cM : Nat) (w : World) : Calls Tryd.prog 12 #[.agg #[.slice aS S.length cS, .slice aM M.length cM, .int .i64 L]] w fun e w' => e = .returned (.bool (greatB S M L)) ∧ Below w.heap.size w w' := by
  unfold greatB
  by_cases h : 20 < S.length
  · rw [decide_eq_true h, Bool.true_or]; exact great_a S M L aS aM cS cM w h
  · rw [decide_eq_false h, Bool.false_or]
    by_cases h2 : 80 < M.length
    · rw [decide_eq_true h2]; exact great_b S M L aS aM cS cM w (by omega) h2
    · rw [decide_eq_false h2]; exact great_c S M L aS aM cS cM w (by omega) (by omega)
end Go.Proofs.YtmhhjchnjaefhaaDoor

