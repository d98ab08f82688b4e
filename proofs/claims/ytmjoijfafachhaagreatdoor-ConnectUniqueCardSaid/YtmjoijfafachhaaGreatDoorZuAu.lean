/- Plain: the codes of the prime factors do not depend on the numbers of the crossings. slices.Sort on a slice of strings of the call's own; slices.Equal of two equal ones. Plain law: the search that counts the parts of a graph without two edges. law07's pieces: how many parts remain without two edges. Slices of slices of integers that are read: s[i:], s[i:j]. -/
import Derived.WalkKit
import Derived.WalkSpells
import Derived.WalkLawsBesides
import Derived.Deep.AppendSrc
import Derived.Deep.LoopGhost
import Derived.Deep.QuietTactic
import Derived.Deep.RegionWith
import Derived.Deep.DeepMust
import Derived.Deep.DeepFit
import Derived.BigQuiet
import Derived.Lib.Hide
import Derived.Outline
import Derived.Test.YtmjoijfafachhaaGreatDoorProg
import Derived.Deep.Matrix
import Derived.Deep.DeepCutAuto
import Derived.Deep.RegionLaw
import Derived.Deep.RegionHeld3
import Derived.Shelf.Strings.Builder1
import Derived.Shelf.Small.Bits
import Derived.Shelf.Small.Wraps
import Derived.Shelf.Strings.BuilderF
import Derived.Shelf.Strings.BuilderK
import Derived.Shelf.Strconv.Itoa0
import Derived.Shelf.Strconv.Itoa1
import Derived.Shelf.LaysM
import Derived.Shelf.Strconv.Itoa2
import Derived.Shelf.Strconv.Itoa3
import Derived.Shelf.Sort.Plain
import Derived.Shelf.Slices.Turned
import Derived.Shelf.Slices.Equal
import Derived.Ground.Names2Prog
import Derived.Shelf.Slices.Clone
import Derived.Shelf.Slices.CompactI
import Derived.Shelf.Slices.SearchI
import Derived.Shelf.Slices.Cells
import Derived.Shelf.Slices.In.SortNone
import Derived.Shelf.Slices.Empties2
import Derived.Ground.SlgnProg
import Derived.Shelf.SlicesE.Clone
import Derived.Lib.AppendZeros
import Derived.Deep.RegionHeld
import Derived.Test.YtmjoijfafachhaaGreatDoorZuAa
import Derived.Test.YtmjoijfafachhaaGreatDoorZuAb
import Derived.Test.YtmjoijfafachhaaGreatDoorZuAc
import Derived.Test.YtmjoijfafachhaaGreatDoorZuAd
import Derived.Test.YtmjoijfafachhaaGreatDoorZuAe
import Derived.Test.YtmjoijfafachhaaGreatDoorZuAf
import Derived.Test.YtmjoijfafachhaaGreatDoorZuAg
import Derived.Test.YtmjoijfafachhaaGreatDoorZuAh
import Derived.Test.YtmjoijfafachhaaGreatDoorZuAi
import Derived.Test.YtmjoijfafachhaaGreatDoorZuAj
import Derived.Test.YtmjoijfafachhaaGreatDoorZuAk
import Derived.Test.YtmjoijfafachhaaGreatDoorZuAl
import Derived.Test.YtmjoijfafachhaaGreatDoorZuAm
import Derived.Test.YtmjoijfafachhaaGreatDoorZuAn
import Derived.Test.YtmjoijfafachhaaGreatDoorZuAo
import Derived.Test.YtmjoijfafachhaaGreatDoorZuAp
import Derived.Test.YtmjoijfafachhaaGreatDoorZuAq
import Derived.Test.YtmjoijfafachhaaGreatDoorZuAr
import Derived.Test.YtmjoijfafachhaaGreatDoorZuAs
import Derived.Test.YtmjoijfafachhaaGreatDoorZuAt
namespace Go.Proofs.YtmjoijfafachhaaGreatDoor
open Go Go.RowKit
theorem nil_inn (S M : List Int) (e : Nat → Nat) : Inn [] [] S M e := ⟨⟨fun c hc => absurd hc (Nat.not_lt_zero _), fun c d hc => absurd hc (Nat.not_lt_zero _), fun h hh => absurd hh (by simp)⟩, fun c hc => absurd hc (Nat.not_lt_zero _)⟩
theorem nil_valid : vldB [] [] 0 = true := by decide +kernel
theorem nil_nocut : NoCut [] [] := fun x y hc => by have := hc.ox.1; simp at this
/-- The groups from some on, side by side. -/
theorem groups_end {S M : List Int} {L : Int} (hv : vldB S M L = true) : ∀ (hs : List (List Nat)), (∀ G, G ∈ hs → G ∈ grpOf M S.length) → hs.Nodup →
    Whole M S.length hs.flatten ∧ ∃ N, Steps (partS S hs.flatten) (partM M hs.flatten) N ∧ NoCut (partS S hs.flatten) N ∧ (pinf (partS S hs.flatten) N (partS S hs.flatten).length).Perm (hs.flatMap fun G => (primeL (partS S G) (partM M G) 0).flatMap pinfD)
  | [], _, _ => ⟨⟨fun c h => by simp at h, by simp, fun c h => by simp at h⟩, [], .refl _, nil_nocut, by rw [List.flatMap_nil]; exact List.Perm.refl _⟩
  | G :: hs, hG, hn => by
    have hmo := (vldB_iff.1 hv).1.mates2.ok
    rw [List.nodup_cons] at hn
    obtain ⟨w2, N2, s2, n2, p2⟩ := groups_end hv hs (fun H hH => hG H (List.mem_cons_of_mem _ hH)) hn.2
    have hGG := hG G List.mem_cons_self
    have w1 := (grp_whole hmo hGG).1
    have hd : ∀ c, c ∈ G → c ∉ hs.flatten := fun c hc hf => by
      obtain ⟨H, hH, hcH⟩ := List.mem_flatten.1 hf
      have hl := w1.lt c hc
      have e1 := grp_of hmo hl hGG hc
      have e2 := grp_of hmo hl (hG H (List.mem_cons_of_mem _ hH)) hcH
      exact hn.1 (by rw [e1, ← e2]; exact hH)
    have w : Whole M S.length (G ++ hs.flatten) := by
      refine ⟨fun c hc => ?_, ?_, fun c hc d hcd => ?_⟩
      · rcases List.mem_append.1 hc with g | g
        · exact w1.lt c g
        · exact w2.lt c g
      · rw [List.nodup_append]
        exact ⟨w1.nd, w2.nd, fun a ha b hb e => hd a ha (e ▸ hb)⟩
      · rcases List.mem_append.1 hc with g | g
        · exact List.mem_append_left _ (w1.cl c g d hcd)
        · exact List.mem_append_right _ (w2.cl c g d hcd)
    have v1 : vldB (partS S G) (partM M G) 0 = true := part_valid hv w1 (Int.le_refl _) (by omega)
    have v2 : vldB (partS S hs.flatten) (partM M hs.flatten) 0 = true := part_valid hv w2 (Int.le_refl _) (by omega)
    have v : vldB (partS S (G ++ hs.flatten)) (partM M (G ++ hs.flatten)) 0 = true := part_valid hv w (Int.le_refl _) (by omega)
    have cn : Cn (partM M G) (partS S G).length := by
      obtain ⟨c, hc, rfl⟩ := List.mem_map.1 hGG
      rw [partS_len]
      exact part_cn hv (mem_leadsN.1 hc).1
    obtain ⟨N1, s1, n1, p1⟩ := prime_end _ _ _ _ (Nat.le_refl _) v1 cn
    have eS : partS S (G ++ hs.flatten) = partS S G ++ partS S hs.flatten := partS_append S G hs.flatten
    have eM := part_union w1 w2 hd
    have hl : (partS S (G ++ hs.flatten)).length = (partS S G).length + (partS S hs.flatten).length := by rw [eS, List.length_append]
    have I1 : Inn (partS S G) (partM M G) (partS S (G ++ hs.flatten)) (partM M (G ++ hs.flatten)) id := ⟨by rw [hl, ← eM]; exact uni_embA v1 v2, fun c hc => by rw [eS]; exact nth_append_left _ _ _ hc⟩
    have I2 : Inn (partS S hs.flatten) (partM M hs.flatten) (partS S (G ++ hs.flatten)) (partM M (G ++ hs.flatten)) (fun c => (partS S G).length + c) := ⟨by rw [hl, ← eM]; exact uni_embB v1 v2, fun c hc => by
      rw [eS, nth_append_right _ _ _ (by omega)]
      congr 1; omega⟩
    obtain ⟨N, s, n, p⟩ := cover_end v1 v2 v I1 I2 (fun c hc => by
      rcases Nat.lt_or_ge c (partS S G).length with g | g
      · exact .inl ⟨c, g, rfl⟩
      · exact .inr ⟨c - (partS S G).length, by omega, by omega⟩) (fun c d hc _ e => by
      have e : c = (partS S G).length + d := e
      omega) (by omega) (by omega) s1 n1 s2 n2
    rw [List.flatten_cons]
    refine ⟨w, N, s, n, p.trans ?_⟩
    rw [List.flatMap_cons]
    exact p1.append p2
/-- From a renumbered diagram's end to the diagram's. -/
theorem renum_end {S M : List Int} {L : Int} (hv : vldB S M L = true) {o : List Nat} (ho : o.Perm (List.range S.length)) {N' : List Int} (hs : Steps (partS S o) (partM M o) N') (hn : NoCut (partS S o) N') :
    ∃ N, Steps S M N ∧ NoCut S N ∧ (pinf S N S.length).Perm (pinf (partS S o) N' (partS S o).length) := by
  have hmo := (vldB_iff.1 hv).1.mates2.ok
  have w := whole_perm hmo ho
  have hl : (partS S o).length = S.length := by rw [partS_len, ho.length_eq, List.length_range]
  have v : vldB (partS S o) (partM M o) 0 = true := part_valid hv w (Int.le_refl _) (by omega)
  obtain ⟨N, s, I, _⟩ := up_steps hs v hv (part_inn hv w)
  have vN := s.valid hv
  have vN' := hs.valid v
  have hcov : ∀ c, c < S.length → ∃ d, d < (partS S o).length ∧ o.getD d 0 = c := fun c hc => by
    obtain ⟨j, hj, e⟩ := List.mem_iff_getElem.1 (ho.mem_iff.2 (List.mem_range.2 hc))
    exact ⟨j, by rw [partS_len]; exact hj, by rw [List.getD_eq_getElem?_getD, List.getElem?_eq_getElem hj, e]; rfl⟩
  refine ⟨N, s, nocut_cover vN' nil_valid vN I (nil_inn S N id) (fun c hc => .inl (hcov c hc)) hn nil_nocut, ?_⟩
  have hmN := (vldB_iff.1 vN).1.mates2.ok
  have hmN' := (vldB_iff.1 vN').1.mates2
  have E := I.E
  have sg := I.sg
  rw [hl] at E sg hmN' hcov ⊢
  exact pinf_iso E hmN' hmN hcov sg
theorem flat_loops (k : Nat) : (List.replicate k (([], [], 1) : Dgm)).flatMap (fun d => primeL d.1 d.2.1 d.2.2) = List.replicate k (([], [], 1) : Dgm) := by
  induction k with
  | zero => rfl
  | succ k ih =>
    rw [List.replicate_succ, List.flatMap_cons, ih]
    have : primeL [] [] 1 = [([], [], 1)] := primeL_none (by rfl)
    rw [this]; rfl
/-- The factors other than loops. -/
noncomputable def realL (S M : List Int) : List Dgm := (grpOf M S.length).flatMap fun G => primeL (partS S G) (partM M G) 0
theorem factors_real (S M : List Int) (L : Int) : factorsL S M L = realL S M ++ List.replicate L.toNat ([], [], 1) := by
  unfold factorsL primesL splitL realL
  rw [List.flatMap_append, flat_loops, List.flatMap_map]
/-- The factors are the pieces of the end. -/
theorem factors_end {S M : List Int} {L : Int} (hv : vldB S M L = true) : ∃ N, Steps S M N ∧ NoCut S N ∧ (pinf S N S.length).Perm ((realL S M).flatMap pinfD) := by
  have hmo := (vldB_iff.1 hv).1.mates2.ok
  obtain ⟨_, N, s, n, p⟩ := groups_end hv (grpOf M S.length) (fun _ h => h) (grp_nodup hmo)
  obtain ⟨K, s', n', p'⟩ := renum_end hv (grp_all hmo) s n
  refine ⟨K, s', n', p'.trans (p.trans (List.Perm.of_eq ?_))⟩
  unfold realL
  rw [List.flatMap_assoc]
theorem real_renum {S M : List Int} {L : Int} (hv : vldB S M L = true) {o : List Nat} (ho : o.Perm (List.range S.length)) : ((realL S M).flatMap pinfD).Perm ((realL (partS S o) (partM M o)).flatMap pinfD) := by
  have hmo := (vldB_iff.1 hv).1.mates2.ok
  have v : vldB (partS S o) (partM M o) 0 = true := part_valid hv (whole_perm hmo ho) (Int.le_refl _) (by omega)
  obtain ⟨N, s, n, p⟩ := factors_end hv
  obtain ⟨N', s', n', p'⟩ := factors_end v
  obtain ⟨K, t, m, q⟩ := renum_end hv ho s' n'
  have e := end_uniq _ M N K hv (Nat.le_refl _) s n t m
  subst e
  exact p.symm.trans (q.trans p')
theorem one_grp {M : List Int} {n : Nat} (h : Cn M n) (h0 : 0 < n) : grpOf M n = [clsN M n 0] := by
  unfold grpOf
  have e : leadsN M n = [0] := by
    obtain ⟨m, rfl⟩ : ∃ m, n = m + 1 := ⟨n - 1, by omega⟩
    unfold leadsN
    rw [List.range_succ_eq_map, List.filter_cons, if_pos (okC_iff.2 fun d hd => absurd hd (Nat.not_lt_zero _))]
    congr 1
    rw [List.filter_eq_nil_iff]
    intro c hc hk
    obtain ⟨j, hj, rfl⟩ := List.mem_map.1 hc
    have hj := List.mem_range.1 hj
    exact (okC_iff.1 hk) 0 (Nat.succ_pos _) (h 0 (j + 1) (by omega) (by omega))
  rw [e]; rfl
noncomputable def codeD (d : Dgm) : List Int := codeOf d.1 d.2.1 d.2.2
theorem one_code {S M : List Int} (h : Cn M S.length) (h0 : 0 < S.length) : ∃ p, pinf S M S.length = [p] ∧ codeOf S M 0 = encC 0 [p.1] := by
  have e : pinf S M S.length = [((pieOf S M S.length (clsN M S.length 0)).1, (pieOf S M S.length (clsN M S.length 0)).2.2)] := by
    unfold pinf
    rw [one_grp h h0]; rfl
  refine ⟨_, e, ?_⟩
  unfold codeOf codesL
  rw [e]
  unfold srtC
  show encC 0 (List.mergeSort [_] slx) = _
  rw [List.mergeSort_singleton]
theorem prime_one : ∀ (k : Nat) (S M : List Int), S.length ≤ k → vldB S M 0 = true → Cn M S.length → 0 < S.length → ∀ d, d ∈ primeL S M 0 → d.2.2 = 0 ∧ Cn d.2.1 d.1.length ∧ 0 < d.1.length := fun k => by
  induction k with
  | zero => intro S M hk _ _ h0; omega
  | succ k ih =>
    intro S M hk hv hcn h0 d hd
    cases h : cutsL S M with
    | nil =>
      rw [primeL_none h, List.mem_singleton] at hd
      subst hd
      exact ⟨rfl, hcn, h0⟩
    | cons p l =>
      have hp : p ∈ cutsL S M := by rw [h]; exact List.mem_cons_self
      obtain ⟨f1, f2, f3, f4, f5⟩ := fac_cuts hv hp
      obtain ⟨g1, g2⟩ := fac_cn hv hp
      obtain ⟨_, q1, q2⟩ := fac_sum hv hp
      rw [primeL_cons hv h] at hd
      rcases List.mem_append.1 hd with hd | hd
      · exact ih _ _ (by omega) f2 g1 q1 d hd
      · exact ih _ _ (by omega) f3 g2 q2 d hd
theorem real_codes {S M : List Int} {L : Int} (hv : vldB S M L = true) : (realL S M).map codeD = ((realL S M).flatMap pinfD).map fun p => encC 0 [p.1] := by
  have hmo := (vldB_iff.1 hv).1.mates2.ok
  have key : ∀ (A : List Dgm), (∀ d, d ∈ A → ∃ p, pinfD d = [p] ∧ codeD d = encC 0 [p.1]) → A.map codeD = (A.flatMap pinfD).map fun p => encC 0 [p.1] := fun A => by
    induction A with
    | nil => intro _; rfl
    | cons d A ih =>
      intro h
      obtain ⟨p, e1, e2⟩ := h d List.mem_cons_self
      rw [List.map_cons, List.flatMap_cons, e1, e2, ih fun x hx => h x (List.mem_cons_of_mem _ hx)]; rfl
  refine key _ fun d hd => ?_
  obtain ⟨G, hG, hd⟩ := List.mem_flatMap.1 hd
  obtain ⟨c, hc, rfl⟩ := List.mem_map.1 hG
  have w := (grp_whole hmo hG)
  have v : vldB (partS S (clsN M S.length c)) (partM M (clsN M S.length c)) 0 = true := part_valid hv w.1 (Int.le_refl _) (by omega)
  have hl : (partS S (clsN M S.length c)).length = (clsN M S.length c).length := partS_len _ _
  obtain ⟨z, cn, h0⟩ := prime_one _ _ _ (Nat.le_refl _) v (by rw [hl]; exact part_cn hv (mem_leadsN.1 hc).1) (by rw [hl]; exact w.2) d hd
  obtain ⟨S', M', L'⟩ := d
  dsimp only at z cn h0
  subst z
  exact one_code cn h0
/-- THE PRIME FACTORS DO NOT DEPEND ON THE NUMBERS OF THE CROSSINGS, up to isomorphism. -/
theorem factors_renum {S M : List Int} {L : Int} (hv : vldB S M L = true) {o : List Nat} (ho : o.Perm (List.range S.length)) : ((factorsL S M L).map codeD).Perm ((factorsL (partS S o) (partM M o) L).map codeD) := by
  have hmo := (vldB_iff.1 hv).1.mates2.ok
  have v : vldB (partS S o) (partM M o) 0 = true := part_valid hv (whole_perm hmo ho) (Int.le_refl _) (by omega)
  rw [factors_real, factors_real, List.map_append, List.map_append, real_codes hv, real_codes v]
  exact ((real_renum hv ho).map _).append (List.Perm.refl _)
end Go.Proofs.YtmjoijfafachhaaGreatDoor

namespace Go.Proofs.YtmjoijfafachhaaGreatDoor
open Go Go.RowKit
/-- Strings, a cell each. -/
def strs (l : List (List UInt8)) : List Value := l.map fun s => .string ⟨s.toArray⟩
theorem strs_len (l : List (List UInt8)) : (strs l).length = l.length := List.length_map _
theorem strs_get (l : List (List UInt8)) (i : Nat) (h : i < l.length) : (strs l)[i]? = some (.string ⟨(l.getD i []).toArray⟩) := by
  unfold strs
  rw [List.getElem?_map, List.getD_eq_getElem?_getD, List.getElem?_eq_getElem h]; rfl
theorem strs_snoc (l : List (List UInt8)) (s : List UInt8) : strs l ++ [.string ⟨s.toArray⟩] = strs (l ++ [s]) := by
  unfold strs; rw [List.map_append]; rfl
/-- In order. -/
def srtS (l : List (List UInt8)) : List (List UInt8) := l.mergeSort fun x y => decide (x ≤ y)
theorem srtS_len (l : List (List UInt8)) : (srtS l).length = l.length := List.length_mergeSort _
theorem srtS_perm {l l' : List (List UInt8)} (h : l.Perm l') : srtS l = srtS l' := by
  have tr : ∀ a b c : List UInt8, decide (a ≤ b) = true → decide (b ≤ c) = true → decide (a ≤ c) = true := fun a b c h1 h2 => by simp only [decide_eq_true_eq] at *; exact List.le_trans h1 h2
  have tt : ∀ a b : List UInt8, (decide (a ≤ b) || decide (b ≤ a)) = true := fun a b => by simp only [Bool.or_eq_true, decide_eq_true_eq]; exact List.le_total a b
  refine List.Perm.eq_of_pairwise (le := fun a b => decide (a ≤ b) = true) (fun a b _ _ h1 h2 => ?_) (List.pairwise_mergeSort tr tt l) (List.pairwise_mergeSort tr tt l') (((List.mergeSort_perm l _).trans h).trans (List.mergeSort_perm l' _).symm)
  simp only [decide_eq_true_eq] at h1 h2
  exact List.le_antisymm h1 h2
theorem sortS_own (xs : List (List UInt8)) (a : Option Addr) (c B : Nat) (w : World) (h : Own w B 9 a c (strs xs)) (hl2 : xs.length ≤ 1000000) :
    Calls Tryz.prog 17 #[.slice a xs.length c] w fun e w' => e = .returned (.tuple #[]) ∧ Own w' B 9 a c (strs (srtS xs)) ∧ Turned w w' a := by
  rcases Nat.eq_zero_or_pos xs.length with h0 | h0
  · obtain rfl : xs = [] := List.eq_nil_of_length_eq_zero h0
    refine (Tryz.slices_Sort_string_none a c w).mono ?_
    rintro e w' ⟨rfl, rfl⟩
    have hs : srtS [] = [] := List.eq_nil_of_length_eq_zero (by rw [srtS_len]; rfl)
    rw [hs]
    exact ⟨rfl, h, rfl, rfl, rfl, Nat.le_refl _, fun _ _ _ => rfl⟩
  rcases h with ⟨_, h, _⟩ | ⟨b, off, cur, rfl, hB, hb, h4, h5, h6⟩
  · rw [← strs_len, h] at h0; cases h0
  have hlen : (strs xs).length = xs.length := strs_len _
  have hsz : b < w.heap.size := (Array.getElem?_eq_some_iff.1 hb).1
  have hH : Go.Sort.Holds encStr w b off xs.toArray := fun j hj => by
    have hj' : j < xs.length := by simpa using hj
    refine ⟨?_, frozen_of_row w b _ cur 9 hb⟩
    rw [cell_of_row w b _ cur 9 (0, 0) hb, h6 j _ (strs_get xs j hj')]
    simp [List.getD_eq_getElem?_getD, hj', encStr]
  refine (Tryz.slices_Sort_string b off c xs w hH hsz (by omega)).mono ?_
  rintro e w' ⟨rfl, n, os, rfl⟩
  have hold : ∀ k, k < w.heap.size → b ≠ k → (Go.Sort.grow (Go.Sort.putRow encStr (Go.Sort.ahead w n) b off (srtS xs).toArray) os).heap[k]? = w.heap[k]? := fun k hk hne => by
    rw [Go.Sort.heap_grow_old _ _ (by simpa using hk)]
    simp [Go.Sort.putRow, Go.Sort.mapBlock, Go.Sort.ahead, Array.getElem?_modify, hne]
  have hnew : (Go.Sort.grow (Go.Sort.putRow encStr (Go.Sort.ahead w n) b off (srtS xs).toArray) os).heap[b]? = some (.cells (Go.Sort.putCells encStr off (srtS xs).toArray cur) 9 (0, 0)) := by
    rw [Go.Sort.heap_grow_old _ _ (by simpa using hsz)]
    simp [Go.Sort.putRow, Go.Sort.mapBlock, Go.Sort.ahead, Array.getElem?_modify, hb, Go.Sort.onCells]
  refine ⟨rfl, .inr ⟨b, off, _, rfl, hB, hnew, by rw [strs_len, srtS_len]; omega, by simpa [Go.Sort.putCells] using h5, fun i v hv => ?_⟩, ⟨rfl, rfl, rfl, by simp, fun k hk hne => hold k hk fun e => hne _ rfl e⟩⟩
  have hi : i < (srtS xs).length := by
    rcases Nat.lt_or_ge i (srtS xs).length with g | g
    · exact g
    · rw [List.getElem?_eq_none (by rw [strs_len]; exact g)] at hv; cases hv
  have hi2 : i < xs.length := by rw [srtS_len] at hi; exact hi
  have hoff : off + i < cur.size := by omega
  rw [strs_get _ i hi] at hv
  rw [← Option.some.inj hv]
  simp [Go.Sort.putCells, hoff, hi, List.getD_eq_getElem?_getD, encStr]
theorem sEqS_yes (l : List (List UInt8)) (a b : Option Addr) (c d : Nat) (w : World) (hl : l.length ≤ 1000000) (h1 : VAt w a (strs l)) (h2 : VAt w b (strs l)) :
    Calls Tryz.prog 7 #[.slice a l.length c, .slice b l.length d] w fun e w' => e = .returned (.bool true) ∧ Below w.heap.size w w' := by
  rcases Nat.eq_zero_or_pos l.length with h0 | h0
  · rw [h0]
    refine (Tryz.slices_Equal_string_empty a b c 0 d w (by decide)).mono ?_
    rintro e w' ⟨rfl, rfl⟩
    exact ⟨rfl, Below.refl _ _⟩
  obtain ⟨b1, o1, rfl, _⟩ := h1 0 _ (strs_get l 0 h0)
  obtain ⟨b2, o2, rfl, _⟩ := h2 0 _ (strs_get l 0 h0)
  have hg : ∀ j, j < (l.map fun s => (⟨s.toArray⟩ : ByteArray)).length → (Value.string ((l.map fun s => (⟨s.toArray⟩ : ByteArray)).getD j ByteArray.empty)) = .string ⟨(l.getD j []).toArray⟩ := fun j hj => by
    rw [List.length_map] at hj
    simp [List.getD_eq_getElem?_getD, hj]
  refine (Tryz.slices_Equal_string b1 o1 l.length c b2 o2 l.length d (l.map fun s => ⟨s.toArray⟩) (l.map fun s => ⟨s.toArray⟩) w (by simp) (by simp) (by omega) (by omega) (fun j hj => ?_) (fun j hj => ?_)).mono ?_
  · rw [hg j hj]
    rw [List.length_map] at hj
    obtain ⟨b', o', e, g⟩ := h1 j _ (strs_get l j hj)
    cases e; exact g
  · rw [hg j hj]
    rw [List.length_map] at hj
    obtain ⟨b', o', e, g⟩ := h2 j _ (strs_get l j hj)
    cases e; exact g
  · rintro e w' ⟨rfl, q, rfl⟩
    exact ⟨by rw [decide_eq_true rfl], below_drewNN (Below.refl _ _) q⟩
end Go.Proofs.YtmjoijfafachhaaGreatDoor

namespace Go.Proofs.YtmjoijfafachhaaGreatDoor
open Go Go.RowKit
/-- The search from c: what is seen, what waits; of b the first k ends have been looked at. -/
structure Sr (M : List Int) (x y n c : Nat) (old : Nat → Prop) (seen : List Bool) (rest : List Nat) (b k : Nat) : Prop where
  len : seen.length = n
  only : ∀ d, d < n → bth seen d = true → old d ∨ ConnW M x y c d
  olds : ∀ d, d < n → old d → bth seen d = true
  root : bth seen c = true
  wait : ∀ d ∈ rest, d < n ∧ bth seen d = true ∧ ConnW M x y c d
  done : ∀ d, d < n → bth seen d = true → ¬ old d → d ∉ rest → d ≠ b → ∀ e, AdjW M x y d e → bth seen e = true
  now : b < n → ConnW M x y c b ∧ ∀ s, s < k → 4 * b + s ≠ x → mt M (4 * b + s) ≠ x → 4 * b + s ≠ y → mt M (4 * b + s) ≠ y → bth seen (mt M (4 * b + s) / 4) = true
namespace Sr
variable {M : List Int} {x y n c b k : Nat} {old : Nat → Prop} {seen : List Bool} {rest : List Nat}
theorem start (hl : seen.length = n) (hc : c < n) (ho : ∀ d, d < n → (bth seen d = true ↔ old d)) : Sr M x y n c old (seen.set c true) [c] n 0 := by
  have hs := fun j => bth_set seen c j true (by omega)
  refine ⟨by rw [List.length_set, hl], fun d hd h => ?_, fun d hd h => ?_, ?_, fun d hd => ?_, fun d hd h hn hr => ?_, fun h => absurd h (Nat.lt_irrefl _)⟩
  · rw [hs] at h
    by_cases e : c = d
    · subst e; exact .inr (ConnW.refl M x y c)
    · rw [if_neg e] at h; exact .inl ((ho d hd).1 h)
  · rw [hs]
    by_cases e : c = d
    · rw [if_pos e]
    · rw [if_neg e]; exact (ho d hd).2 h
  · rw [hs, if_pos rfl]
  · obtain rfl := List.mem_singleton.1 hd
    exact ⟨hc, by rw [hs, if_pos rfl], ConnW.refl M x y d⟩
  · rw [hs] at h
    by_cases e : c = d
    · subst e; exact absurd (List.mem_singleton.2 rfl) hr
    · rw [if_neg e] at h; exact absurd ((ho d hd).1 h) hn
theorem skip (h : Sr M x y n c old seen rest b k) (hk : 4 * b + k = x ∨ mt M (4 * b + k) = x ∨ 4 * b + k = y ∨ mt M (4 * b + k) = y ∨ bth seen (mt M (4 * b + k) / 4) = true) : Sr M x y n c old seen rest b (k + 1) :=
  ⟨h.len, h.only, h.olds, h.root, h.wait, h.done, fun hb => ⟨(h.now hb).1, fun s hs h1 h2 h3 h4 => by
    rcases Nat.lt_or_ge s k with g | g
    · exact (h.now hb).2 s g h1 h2 h3 h4
    · obtain rfl : s = k := by omega
      rcases hk with e | e | e | e | e
      · exact absurd e h1
      · exact absurd e h2
      · exact absurd e h3
      · exact absurd e h4
      · exact e⟩⟩
end Sr
end Go.Proofs.YtmjoijfafachhaaGreatDoor


namespace Go.Proofs.YtmjoijfafachhaaGreatDoor
open Go Go.RowKit
theorem ints_nats_snoc (l : List Nat) (m : Nat) : ints (nats l) ++ [.int .i64 (m : Int)] = ints (nats (l ++ [m])) := by rw [← nats_snoc, ← ints_snoc]
theorem natsv_len (l : List Nat) : (ints (nats l)).length = l.length := by rw [ints_length, nats_length]
end Go.Proofs.YtmjoijfafachhaaGreatDoor


namespace Go.Proofs.YtmjoijfafachhaaGreatDoor
open Go Go.RowKit
def fromA (A : Option Addr) (i c : Nat) : Option Addr := if c = i then A else A.map (·.add (i * 1))
theorem IntsAt.from {w : World} {A : Option Addr} {zs : List Int} (h : IntsAt w A zs) {i c : Nat} (hc : zs.length ≤ c) : IntsAt w (fromA A i c) (zs.drop i) := by
  unfold fromA
  by_cases e : c = i
  · rw [if_pos e, List.drop_eq_nil_of_le (by omega)]; exact IntsAt.nil _ _
  · rw [if_neg e]
    intro j v hj
    rw [← ints_drop, List.getElem?_drop] at hj
    obtain ⟨b, off, rfl, hv⟩ := h (i + j) v hj
    exact ⟨b, off + i, by rw [Option.map_some, Addr.add_lit, Nat.mul_one], by rw [Nat.add_assoc]; exact hv⟩
theorem IntsAt.take {w : World} {A : Option Addr} {zs : List Int} (h : IntsAt w A zs) (i : Nat) : IntsAt w A (zs.take i) := fun j v hj => by
  have hjl := (List.getElem?_eq_some_iff.1 hj).1
  rw [ints_length, List.length_take] at hjl
  rw [ints_get _ _ (by rw [List.length_take]; exact hjl)] at hj
  refine h j v ?_
  rw [ints_get _ _ (by omega), ← hj]
  have : nth (zs.take i) j = nth zs j := by unfold nth; rw [List.getD_eq_getElem?_getD, List.getD_eq_getElem?_getD, List.getElem?_take_of_lt (by omega)]
  rw [this]
section
variable {P : Program}
theorem run_from' {t E : TypeId} {i : TypeInfo} (h1 : P.underlying t = some (.slice E)) (h2 : P.info? E = some i) (h4 : i.size = 1) (A : Option Addr) (n c k : Nat) (hk : k ≤ n) (x : Int) (hx : x = (k : Int)) (w : World) :
    (Instr.slice t (.slice A n c) (some (.int .i64 x)) none none).run P w = .ok (.slice (fromA A k c) (n - k) (c - k)) w := by
  subst hx
  have he : P.elem t = E := by simp [Program.elem, h1]
  have h1' : P.underlying t = some (.slice (P.elem t)) := by rw [he]; exact h1
  have hs : (sizeOf (P.elem t)).run P w = .ok 1 w := by rw [he]; simp [sizeOf, typeInfo, h2, h4]
  have hr := run_slice_l (P := P) w t A n c h1' .i64 (k : Int) (by omega) (by omega)
  rw [hs] at hr
  rw [hr]
  simp [Result.andThen, sliced, fromA]
theorem run_mid' {t E : TypeId} {i : TypeInfo} (h1 : P.underlying t = some (.slice E)) (h2 : P.info? E = some i) (h4 : i.size = 1) (A : Option Addr) (n c k l : Nat) (hk : k ≤ l) (hl : l ≤ c) (x y : Int) (hx : x = (k : Int)) (hy : y = (l : Int)) (w : World) :
    (Instr.slice t (.slice A n c) (some (.int .i64 x)) (some (.int .i64 y)) none).run P w = .ok (.slice (fromA A k c) (l - k) (c - k)) w := by
  subst hx hy
  have he : P.elem t = E := by simp [Program.elem, h1]
  have h1' : P.underlying t = some (.slice (P.elem t)) := by rw [he]; exact h1
  have hs : (sizeOf (P.elem t)).run P w = .ok 1 w := by rw [he]; simp [sizeOf, typeInfo, h2, h4]
  have hr := run_slice_lh (P := P) w t A n c h1' .i64 .i64 (k : Int) (l : Int) (by omega) (by omega) (by omega)
  rw [hs] at hr
  rw [hr]
  simp [Result.andThen, sliced, fromA]
end
end Go.Proofs.YtmjoijfafachhaaGreatDoor


