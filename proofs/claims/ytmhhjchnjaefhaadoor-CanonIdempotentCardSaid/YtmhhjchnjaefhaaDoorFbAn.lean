/- Plain: the code of a diagram; sorted lists of codes; the union of the parts. DERIVED: THE SHELF's CONTRACTS AT THIS DUMP, IN PLAIN WORDS (tools/lay-plain.mjs out of 'TrydShelf.lean', which tools/lay-shelf.mjs wrote): THE SAME DECLARATIONS UNDER THE SAME NAMES: 'import', 'namespace', 'open', 'def', 'theorem' AND NOTHING ELSE: no command of the shelf's: FOR A HAND-IN. Each laying: the table of numbers ('.._ren') and one theorem, a field a fact of the dump's own or the kernel's comparison; each contract: ONE APPLICATION. slices.Sort on a slice of the call's own. slices.Grow of nil, slices.Concat. The walks of slices.Clone and diagram.Clone. The example of the chapter, walked: awake of law07. Diagrams compared: Ints and Equal of the reference, diagram.Equal, slices.EqualFunc, same of law07; the number of components. canon.Code: the code of a diagram. -/
import Derived.WalkKit
import Derived.WalkSpells
import Derived.WalkLawsBesides
import Derived.Deep.AppendSrc
import Derived.Deep.LoopGhost
import Derived.Deep.QuietTactic
import Derived.Deep.RegionWith
import Derived.Deep.DeepMust
import Derived.Deep.DeepFit
import Derived.BigQuiet
import Derived.Lib.Hide
import Derived.Outline
import Derived.Test.YtmhhjchnjaefhaaDoorProg
import Derived.Deep.Matrix
import Derived.Deep.DeepCutAuto
import Derived.Deep.RegionLaw
import Derived.Deep.RegionHeld3
import Derived.Shelf.Strings.Builder1
import Derived.Shelf.Small.Wraps
import Derived.Shelf.Strings.BuilderF
import Derived.Shelf.Strings.BuilderK
import Derived.Shelf.Strconv.Itoa0
import Derived.Shelf.Strconv.Itoa1
import Derived.Shelf.LaysM
import Derived.Shelf.Strconv.Itoa2
import Derived.Shelf.Strconv.Itoa3
import Derived.Shelf.Slices.Equal
import Derived.Ground.Names2Prog
import Derived.Shelf.Slices.Clone
import Derived.Shelf.Slices.SearchI
import Derived.Shelf.Slices.Empties2
import Derived.Ground.SlgnProg
import Derived.Shelf.SlicesE.Clone
import Derived.Sort.OwnSortedInts
import Derived.Shelf.Small.Bits
import Derived.Shelf.Sort.Plain
import Derived.Shelf.Slices.Turned
import Derived.Shelf.Slices.CompactI
import Derived.Shelf.Slices.Cells
import Derived.Shelf.Slices.In.SortNone
import Derived.Lib.AppendZeros
import Derived.Deep.RegionHeld
import Derived.Lib.SliceRun
import Derived.Test.YtmhhjchnjaefhaaDoorFbAa
import Derived.Test.YtmhhjchnjaefhaaDoorFbAb
import Derived.Test.YtmhhjchnjaefhaaDoorFbAc
import Derived.Test.YtmhhjchnjaefhaaDoorFbAd
import Derived.Test.YtmhhjchnjaefhaaDoorFbAe
import Derived.Test.YtmhhjchnjaefhaaDoorFbAf
import Derived.Test.YtmhhjchnjaefhaaDoorFbAg
import Derived.Test.YtmhhjchnjaefhaaDoorFbAh
import Derived.Test.YtmhhjchnjaefhaaDoorFbAi
import Derived.Test.YtmhhjchnjaefhaaDoorFbAj
import Derived.Test.YtmhhjchnjaefhaaDoorFbAl
import Derived.Test.YtmhhjchnjaefhaaDoorFbAm
import Derived.Test.YtmhhjchnjaefhaaDoorFbAk
namespace Go.Proofs.YtmhhjchnjaefhaaDoor
open Go Go.RowKit
/-- Shorter, or as long and not greater. -/
def slx (s t : List Int) : Bool := if s.length = t.length then decide (cmpL s t ≤ 0) else decide (s.length ≤ t.length)
theorem slx_trans (a b c : List Int) (h : slx a b = true) (g : slx b c = true) : slx a c = true := by
  unfold slx at *
  by_cases h1 : a.length = b.length
  · rw [if_pos h1, decide_eq_true_eq] at h
    by_cases h2 : b.length = c.length
    · rw [if_pos h2, decide_eq_true_eq] at g
      rw [if_pos (h1.trans h2), decide_eq_true_eq]
      exact leL_trans h g
    · rw [if_neg h2, decide_eq_true_eq] at g
      rw [if_neg (by omega), decide_eq_true_eq]; omega
  · rw [if_neg h1, decide_eq_true_eq] at h
    by_cases h2 : b.length = c.length
    · rw [if_neg (by omega), decide_eq_true_eq]; omega
    · rw [if_neg h2, decide_eq_true_eq] at g
      rw [if_neg (by omega), decide_eq_true_eq]; omega
theorem slx_total (a b : List Int) : (slx a b || slx b a) = true := by
  unfold slx
  by_cases h : a.length = b.length
  · rw [if_pos h, if_pos h.symm, Bool.or_eq_true, decide_eq_true_eq, decide_eq_true_eq]
    exact leL_total a b
  · rw [if_neg h, if_neg (fun e => h e.symm), Bool.or_eq_true, decide_eq_true_eq, decide_eq_true_eq]
    omega
theorem slx_anti {a b : List Int} (h : slx a b = true) (g : slx b a = true) : a = b := by
  unfold slx at *
  by_cases h1 : a.length = b.length
  · rw [if_pos h1, decide_eq_true_eq] at h
    rw [if_pos h1.symm, decide_eq_true_eq] at g
    exact leL_antisymm h g
  · rw [if_neg h1, decide_eq_true_eq] at h
    rw [if_neg (fun e => h1 e.symm), decide_eq_true_eq] at g
    omega
/-- Codes, sorted. -/
def srtC (l : List (List Int)) : List (List Int) := l.mergeSort slx
theorem srtC_uniq {l ys : List (List Int)} (hp : ys.Perm l) (hs : ys.Pairwise fun a b => slx a b = true) : ys = srtC l := by
  have h1 : (srtC l).Perm l := List.mergeSort_perm _ _
  have h2 : (srtC l).Pairwise fun a b => slx a b = true := List.pairwise_mergeSort slx_trans slx_total l
  exact List.Perm.eq_of_pairwise (fun a b _ _ h g => slx_anti h g) hs h2 (hp.trans h1.symm)
theorem srtC_perm {l l' : List (List Int)} (hp : l.Perm l') : srtC l = srtC l' :=
  srtC_uniq ((List.mergeSort_perm _ _).trans hp) (List.pairwise_mergeSort slx_trans slx_total l)
/-- The codes of the pieces in order. -/
noncomputable def codesL (S M : List Int) (n : Nat) : List (List Int) := srtC ((pinf S M n).map Prod.fst)
theorem codes_perm {S M S' M' : List Int} {n n' : Nat} (h : (pinf S' M' n').Perm (pinf S M n)) : codesL S' M' n' = codesL S M n := srtC_perm (h.map _)
/-- The pieces themselves, sorted. -/
theorem srtTo_codes {S M : List Int} {n : Nat} {ys : List Dgm} (h : SrtTo ((grpOf M n).map (pieOf S M n)) ys ys.length) :
    ys.map (fun p => p.1) = codesL S M n ∧ (∀ p, p ∈ ys → p.1.length = 5 * p.2.1.length) ∧ (ys.map fun p => (p.1, p.2.2)).Perm (pinf S M n) := by
  have hl : ∀ p, p ∈ ys → p.1.length = 5 * p.2.1.length := fun p hp => by
    obtain ⟨G, hG, rfl⟩ := List.mem_map.1 (h.perm.mem_iff.1 hp)
    obtain ⟨c, hc, rfl⟩ := List.mem_map.1 hG
    exact pie_len (pie_is S M n (cls_pos (mem_leadsN.1 hc).1))
  refine ⟨srtC_uniq ?_ ?_, hl, ?_⟩
  · have := h.perm.map (fun p => p.1)
    rw [List.map_map] at this
    unfold pinf
    rw [List.map_map]
    exact this
  · rw [List.pairwise_map, List.pairwise_iff_getElem]
    intro i j hi hj hij
    have e1 : dg ys i = ys[i] := by have := dg_get hi; rw [List.getElem?_eq_getElem hi] at this; exact (Option.some.inj this).symm
    have e2 : dg ys j = ys[j] := by have := dg_get hj; rw [List.getElem?_eq_getElem hj] at this; exact (Option.some.inj this).symm
    have k := h.srt i j hij hj
    rw [e1, e2] at k
    have l1 := hl _ (List.getElem_mem hi)
    have l2 := hl _ (List.getElem_mem hj)
    generalize ys[i] = x at *
    generalize ys[j] = y at *
    unfold pc pcmp at k
    unfold slx
    by_cases g : x.2.1.length = y.2.1.length
    · rw [if_pos g] at k
      rw [if_pos (by omega), decide_eq_true_eq]; exact k
    · rw [if_neg g] at k
      rw [if_neg (by omega), decide_eq_true_eq]; omega
  · have := h.perm.map (fun p => (p.1, p.2.2))
    rw [List.map_map] at this
    exact this
/-- The code of some pieces. -/
def encC (L : Int) (cs : List (List Int)) : List Int := L :: (cs.length : Int) :: cs.flatMap fun c => ((c.length / 5 : Nat) : Int) :: c
/-- The code of a diagram. -/
noncomputable def codeOf (S M : List Int) (L : Int) : List Int := encC L (codesL S M S.length)
/-- The code as it is written: the first i pieces. -/
def codeY (L : Int) (ys : List Dgm) (i : Nat) : List Int := L :: (ys.length : Int) :: (ys.take i).flatMap fun p => (p.2.1.length : Int) :: p.1
theorem codeY_succ (L : Int) {ys : List Dgm} {i : Nat} (h : i < ys.length) : codeY L ys (i + 1) = codeY L ys i ++ [((ys.getD i ([], [], 0)).2.1.length : Int)] ++ (ys.getD i ([], [], 0)).1 := by
  unfold codeY
  rw [List.take_add_one, getD_some (d := ([], [], 0)) h, List.flatMap_append]
  simp
theorem codeY_all {L : Int} {S M : List Int} {ys : List Dgm} (h : SrtTo ((grpOf M S.length).map (pieOf S M S.length)) ys ys.length) : codeY L ys ys.length = codeOf S M L := by
  obtain ⟨h1, h2, _⟩ := srtTo_codes h
  unfold codeY codeOf encC
  rw [List.take_length, ← h1, List.length_map, List.flatMap_map]
  congr 2
  rw [List.flatMap_def, List.flatMap_def]
  congr 1
  refine List.map_congr_left fun p hp => ?_
  have := h2 p hp
  rw [show p.1.length / 5 = p.2.1.length by omega]
theorem piece_few {S M : List Int} {n : Nat} (hm : ∀ x, x < 4 * n → mt M x < 4 * n) {ys : List Dgm} (h : SrtTo ((grpOf M n).map (pieOf S M n)) ys ys.length) {p : Dgm} (hp : p ∈ ys) : p.1.length ≤ 5 * n ∧ p.2.1.length ≤ n ∧ p.1.length = 5 * p.2.1.length := by
  obtain ⟨G, hG, rfl⟩ := List.mem_map.1 (h.perm.mem_iff.1 hp)
  obtain ⟨c, hc, rfl⟩ := List.mem_map.1 hG
  have hi := pie_is S M n (cls_pos (M := M) (n := n) (mem_leadsN.1 hc).1)
  have hl := pie_len hi
  obtain ⟨r, hr, e1, e2⟩ := hi.at_
  have := ordTo_len hm (mem_clsN.1 hr).1 n
  have e3 : (pieOf S M n (clsN M n c)).2.1.length ≤ n := by rw [e2, nats_length]; exact this
  exact ⟨by omega, e3, hl⟩
theorem codeY_few (L : Int) {ys : List Dgm} {k : Nat} (h : ∀ p, p ∈ ys → p.1.length ≤ k) : ∀ i, i ≤ ys.length → (codeY L ys i).length ≤ 2 + i * (k + 1) := fun i => by
  induction i with
  | zero => intro _; simp [codeY]
  | succ i ih =>
    intro hi
    have h1 := ih (by omega)
    have h2 := h (ys.getD i ([], [], 0)) (by rw [List.getD_eq_getElem?_getD, List.getElem?_eq_getElem (by omega)]; exact List.getElem_mem _)
    rw [codeY_succ L (by omega), List.length_append, List.length_append, Nat.add_mul]
    simp only [List.length_cons, List.length_nil]
    omega
theorem codeOf_few2 {S M : List Int} {L : Int} (hv : vldB S M L = true) (h20 : S.length ≤ 20) : (codeOf S M L).length ≤ 2100 := by
  have hs := vldB_shape hv
  have hk : ∀ l, l ∈ codesL S M S.length → l.length ≤ 100 := fun l hl => by
    have hl := (List.mergeSort_perm _ _).mem_iff.1 hl
    obtain ⟨q, hq, rfl⟩ := List.mem_map.1 hl
    obtain ⟨G, hG, rfl⟩ := List.mem_map.1 hq
    obtain ⟨c, hc, rfl⟩ := List.mem_map.1 hG
    obtain ⟨r, hr, e1, _⟩ := (pie_is S M S.length (cls_pos (M := M) (n := S.length) (mem_leadsN.1 hc).1)).at_
    have := ordTo_len (M := M) (fun x hx => hs.mt_lt hx) (mem_clsN.1 hr).1 S.length
    show (pieOf S M S.length _).1.length ≤ 100
    rw [e1, codeL_len]
    show 5 * (ordTo M r S.length).length ≤ 100
    omega
  have hn : (codesL S M S.length).length ≤ 20 := by
    unfold codesL srtC pinf
    rw [List.length_mergeSort, List.length_map, List.length_map]
    exact Nat.le_trans (grp_len M S.length) h20
  unfold codeOf encC
  rw [List.length_cons, List.length_cons]
  generalize codesL S M S.length = cs at *
  have key : ∀ (l : List (List Int)), (∀ x, x ∈ l → x.length ≤ 100) → (l.flatMap fun c => ((c.length / 5 : Nat) : Int) :: c).length ≤ l.length * 101 := fun l => by
    induction l with
    | nil => intro _; simp
    | cons a l ih =>
      intro h
      rw [List.flatMap_cons, List.length_append, List.length_cons, List.length_cons]
      have h1 := h a List.mem_cons_self
      have h2 := ih fun x hx => h x (List.mem_cons_of_mem _ hx)
      omega
  have := key cs hk
  have := Nat.mul_le_mul hn (Nat.le_refl 101)
  omega
theorem codeOf_few {S M : List Int} {L : Int} (hv : vldB S M L = true) (h20 : S.length ≤ 20) : (codeOf S M L).length ≤ 1000000000 := Nat.le_trans (codeOf_few2 hv h20) (by decide)
theorem part_union {M : List Int} {n : Nat} {G H : List Nat} (hG : Whole M n G) (hH : Whole M n H) (hd : ∀ c, c ∈ G → c ∉ H) : uniM (partM M G) (partM M H) = partM M (G ++ H) := by
  refine ext_nth (by rw [uniM_len, partM_len, partM_len, partM_len, List.length_append]; omega) fun i hi => ?_
  rw [uniM_len, partM_len, partM_len] at hi
  have gg : ∀ {K : List Nat} {j}, j < K.length → K.getD j 0 ∈ K := fun {K j} h => getD_mem h
  rw [partM_nth (G := G ++ H) (by rw [List.length_append]; omega)]
  rcases Nat.lt_or_ge i (4 * G.length) with h | h
  · have e : (G ++ H).getD (i / 4) 0 = G.getD (i / 4) 0 := by rw [List.getD_eq_getElem?_getD, List.getD_eq_getElem?_getD, List.getElem?_append_left (by omega)]
    rw [uniM_left (by rw [partM_len]; exact h), partM_nth h, e]
    unfold partV idxI
    have hin := hG.cl _ (gg (K := G) (j := i / 4) (by omega)) (mt M (4 * G.getD (i / 4) 0 + i % 4) / 4) ⟨i % 4, by omega, rfl⟩
    rw [List.idxOf_append, if_pos hin]
  · obtain ⟨j, rfl⟩ := Nat.exists_eq_add_of_le h
    have e : (G ++ H).getD ((4 * G.length + j) / 4) 0 = H.getD (j / 4) 0 := by
      rw [List.getD_eq_getElem?_getD, List.getD_eq_getElem?_getD, List.getElem?_append_right (by omega)]
      congr 2; omega
    have := uniM_right (A := partM M G) (B := partM M H) (h := j) (by rw [partM_len]; omega)
    rw [partM_len] at this
    rw [this, partM_nth (G := H) (by omega), e, show (4 * G.length + j) % 4 = j % 4 by omega]
    unfold partV idxI
    have hin := hH.cl _ (gg (K := H) (j := j / 4) (by omega)) (mt M (4 * H.getD (j / 4) 0 + j % 4) / 4) ⟨j % 4, by omega, rfl⟩
    rw [List.idxOf_append, if_neg (fun h => hd _ h hin)]
    omega
theorem partS_append (S : List Int) (G H : List Nat) : partS S (G ++ H) = partS S G ++ partS S H := by unfold partS; rw [List.map_append]
/-- A diagram renumbered by any order of its crossings. -/
theorem whole_perm {M : List Int} {n : Nat} (hm : MateOk M n) {o : List Nat} (h : o.Perm (List.range n)) : Whole M n o :=
  ⟨fun _ hc => List.mem_range.1 (h.mem_iff.1 hc), h.nodup_iff.2 List.nodup_range, fun _ hc _ hcd => h.mem_iff.2 (List.mem_range.2 (hm.adj_lt (List.mem_range.1 (h.mem_iff.1 hc)) hcd))⟩
theorem pinf_renum {S M : List Int} {L : Int} (hv : vldB S M L = true) {o : List Nat} (h : o.Perm (List.range S.length)) : (pinf S M S.length).Perm (pinf (partS S o) (partM M o) S.length) := by
  have hs := vldB_shape hv
  have hw := whole_perm hs.mates h
  have hl : o.length = S.length := by have := h.length_eq; rwa [List.length_range] at this
  have E := part_emb hv hw
  have hm' := E.mates hs.mates2 (part_range hv hw)
  rw [hl] at E hm'
  refine pinf_iso E hm' hs.mates (fun c hc => ?_) (fun c hc => ?_)
  · have hin : c ∈ o := h.mem_iff.2 (List.mem_range.2 hc)
    refine ⟨o.idxOf c, by rw [← hl]; exact List.idxOf_lt_length_iff.2 hin, ?_⟩
    show o.getD (o.idxOf c) 0 = c
    rw [List.getD_eq_getElem?_getD, List.getElem?_eq_getElem (List.idxOf_lt_length_iff.2 hin)]
    exact List.getElem_idxOf _
  · rw [partS_nth (by omega)]
theorem code_renum {S M : List Int} {L : Int} (hv : vldB S M L = true) {o : List Nat} (h : o.Perm (List.range S.length)) : codeOf (partS S o) (partM M o) L = codeOf S M L := by
  have hl : (partS S o).length = S.length := by rw [partS_len]; have := h.length_eq; rwa [List.length_range] at this
  unfold codeOf
  rw [hl, codes_perm (pinf_renum hv h)]
end Go.Proofs.YtmhhjchnjaefhaaDoor


namespace Go.Proofs
open Go.Shelf
def Tryd.lays169_ren : Go.Shelf.Ren := ⟨fun | 169 => 53 | n => n, fun | 70 => 55 | 9 => 9 | 0 => 0 | 72 => 58 | 37 => 56 | 127 => 78 | 3 => 3 | 5 => 5 | n => n, fun | n => n⟩
theorem Tryd.lays169 : Go.Proofs.Lays.n169 Tryd.prog Tryd.lays169_ren := {
  mixed := by kernel_rfl
  f169 := Tryd.func53.trans (congrArg some (by kernel_rfl))
  t0 := Tryd.underlying0
  a0 := Tryd.isAgg0
  z0 := Tryd.sizeOf0
  v0 := Tryd.zeroValue0
  t3 := Tryd.underlying3
  a3 := Tryd.isAgg3
  z3 := Tryd.sizeOf3
  v3 := Tryd.zeroValue3
  t9 := Tryd.underlying9
  a9 := Tryd.isAgg9
  z9 := Tryd.sizeOf9
  v9 := Tryd.zeroValue9
  t37 := Tryd.underlying56
  a37 := Tryd.isAgg56
  z37 := Tryd.sizeOf56
  v37 := Tryd.zeroValue56
  t70 := Tryd.underlying55
  a70 := Tryd.isAgg55
  z70 := Tryd.sizeOf55
  v70 := Tryd.zeroValue55
  t72 := Tryd.underlying58
  a72 := Tryd.isAgg58
  z72 := Tryd.sizeOf58
  v72 := Tryd.zeroValue58
  t127 := Tryd.underlying78
  a127 := Tryd.isAgg78
  z127 := Tryd.sizeOf78
  v127 := Tryd.zeroValue78 }
theorem Tryd.Builder_Extra_169 : Builder.Extra Tryd.prog Tryd.lays169_ren := {
  sizeBuilder := by kernel_rfl
  liesBuilder := by kernel_rfl
  t5 := Tryd.underlying5
  a5 := Tryd.isAgg5
  z5 := Tryd.sizeOf5
  v5 := Tryd.zeroValue5
  infoByte := by kernel_rfl
  cellsByte := by kernel_rfl
  sizeByte := by kernel_rfl
  neB5 := by decide }
open Go.RowKit in
/-- (*strings.Builder).String: "String returns the accumulated string.": WHATEVER THE BUILDER HOLDS. (LAID: no walk: one application.) -/
theorem Tryd.Builder_String_any (B b : Nat) (l : List UInt8) (w : World) (h : Lib.IsBuilder 58 5 B b (Lib.byteCells l) w) (hBw : B ≤ w.heap.size) :
    Calls Tryd.prog 53 #[.pointer (some ⟨b, 0, none⟩)] w fun e w' => e = .returned (.string ⟨l.toArray⟩) ∧ Below B w w' := Any.Builder_String_any Tryd.lays169 Tryd.Builder_Extra_169 B b l w h hBw
def Tryd.laysM171_ren : Go.Shelf.Ren := ⟨fun | 171 => 29 | 243 => 54 | 246 => 73 | 283 => 79 | 284 => 80 | 285 => 81 | 286 => 82 | 129 => 87 | 317 => 86 | 318 => 88 | 319 => 89 | 320 => 90 | 337 => 92 | 338 => 93 | n => n, fun | 3 => 3 | 9 => 9 | 2 => 2 | 4 => 4 | 171 => 84 | 0 => 0 | 53 => 85 | 37 => 56 | 5 => 5 | 173 => 88 | 212 => 93 | 51 => 94 | 20 => 20 | 213 => 95 | 46 => 96 | 232 => 99 | 233 => 100 | n => n, fun | 17 => 0 | 18 => 1 | 19 => 2 | n => n⟩
theorem Tryd.laysM171 : Go.Proofs.LaysM.n171 Tryd.prog Tryd.laysM171_ren := {
  mixed := by kernel_rfl
  f129 := Tryd.func87.trans (congrArg some (by kernel_rfl))
  f171 := Tryd.func29.trans (congrArg some (by kernel_rfl))
  f243 := Tryd.func54.trans (congrArg some (by kernel_rfl))
  f246 := Tryd.func73.trans (congrArg some (by kernel_rfl))
  f283 := Tryd.func79.trans (congrArg some (by kernel_rfl))
  f284 := Tryd.func80.trans (congrArg some (by kernel_rfl))
  f285 := Tryd.func81.trans (congrArg some (by kernel_rfl))
  f286 := Tryd.func82.trans (congrArg some (by kernel_rfl))
  f317 := Tryd.func86.trans (congrArg some (by kernel_rfl))
  f318 := Tryd.func88.trans (congrArg some (by kernel_rfl))
  f319 := Tryd.func89.trans (congrArg some (by kernel_rfl))
  f320 := Tryd.func90.trans (congrArg some (by kernel_rfl))
  f337 := Tryd.func92.trans (congrArg some (by kernel_rfl))
  f338 := Tryd.func93.trans (congrArg some (by kernel_rfl))
  t0 := Tryd.underlying0
  a0 := Tryd.isAgg0
  z0 := Tryd.sizeOf0
  v0 := Tryd.zeroValue0
  t2 := Tryd.underlying2
  a2 := Tryd.isAgg2
  z2 := Tryd.sizeOf2
  v2 := Tryd.zeroValue2
  t3 := Tryd.underlying3
  a3 := Tryd.isAgg3
  z3 := Tryd.sizeOf3
  v3 := Tryd.zeroValue3
  t4 := Tryd.underlying4
  a4 := Tryd.isAgg4
  z4 := Tryd.sizeOf4
  v4 := Tryd.zeroValue4
  t5 := Tryd.underlying5
  a5 := Tryd.isAgg5
  z5 := Tryd.sizeOf5
  v5 := Tryd.zeroValue5
  t9 := Tryd.underlying9
  a9 := Tryd.isAgg9
  z9 := Tryd.sizeOf9
  v9 := Tryd.zeroValue9
  t20 := Tryd.underlying20
  a20 := Tryd.isAgg20
  z20 := Tryd.sizeOf20
  v20 := Tryd.zeroValue20
  t37 := Tryd.underlying56
  a37 := Tryd.isAgg56
  z37 := Tryd.sizeOf56
  v37 := Tryd.zeroValue56
  t46 := Tryd.underlying96
  a46 := Tryd.isAgg96
  z46 := Tryd.sizeOf96
  v46 := Tryd.zeroValue96
  t51 := Tryd.underlying94
  a51 := Tryd.isAgg94
  z51 := Tryd.sizeOf94
  v51 := Tryd.zeroValue94
  t53 := Tryd.underlying85
  a53 := Tryd.isAgg85
  z53 := Tryd.sizeOf85
  v53 := Tryd.zeroValue85
  t171 := Tryd.underlying84
  a171 := Tryd.isAgg84
  z171 := Tryd.sizeOf84
  v171 := Tryd.zeroValue84
  t173 := Tryd.underlying88
  a173 := Tryd.isAgg88
  z173 := Tryd.sizeOf88
  v173 := Tryd.zeroValue88
  t212 := Tryd.underlying93
  a212 := Tryd.isAgg93
  z212 := Tryd.sizeOf93
  v212 := Tryd.zeroValue93
  t213 := Tryd.underlying95
  a213 := Tryd.isAgg95
  z213 := Tryd.sizeOf95
  t232 := Tryd.underlying99
  a232 := Tryd.isAgg99
  z232 := Tryd.sizeOf99
  v232 := Tryd.zeroValue99
  t233 := Tryd.underlying100
  a233 := Tryd.isAgg100
  z233 := Tryd.sizeOf100
  v233 := Tryd.zeroValue100
  g17 := by kernel_rfl
  g18 := by kernel_rfl
  g19 := by kernel_rfl
  i0 := by kernel_rfl
  i2 := by kernel_rfl
  i3 := by kernel_rfl
  i4 := by kernel_rfl
  i5 := by kernel_rfl
  i9 := by kernel_rfl
  i20 := by kernel_rfl
  i37 := by kernel_rfl
  i46 := by kernel_rfl
  i51 := by kernel_rfl
  i53 := by kernel_rfl
  i171 := by kernel_rfl
  i173 := by kernel_rfl
  i212 := by kernel_rfl
  i232 := by kernel_rfl
  i233 := by kernel_rfl
  m17 := by kernel_rfl
  m18 := by kernel_rfl
  m19 := by kernel_rfl }
open Go.RowKit Go.Sort Go.Lib in
/-- strconv.Itoa: "Itoa is equivalent to FormatInt(int64(i), 10).": i's DECIMAL NUMERAL ('Lib.itoa': a '-' where i is negative, then the digits), FOR EVERY int. The world behind the call: the world before it, new blocks behind the heap (the library's 'var a [24]byte'), draws. (LAID: no walk: one application.) -/
theorem Tryd.strconv_Itoa (n : Int) (h0 : -9223372036854775808 ≤ n) (h1 : n ≤ 9223372036854775807) (w : World) (htab : Lib.TabIs Tryd.prog w "internal/strconv.uint64pow10" .u64 Lib.pow10Tab) :
    Calls Tryd.prog 29 #[.int .i64 n] w fun e w' => e = .returned (.string ⟨(Lib.itoa n).toArray⟩) ∧ ∃ k os, w' = grow (w.drewN k) os := Any.strconv_Itoa Tryd.laysM171 n h0 h1 w htab
def Tryd.lays111_ren : Go.Shelf.Ren := ⟨fun | 111 => 43 | n => n, fun | 28 => 22 | 3 => 3 | 4 => 4 | 0 => 0 | n => n, fun | n => n⟩
theorem Tryd.lays111 : Go.Proofs.Lays.n111 Tryd.prog Tryd.lays111_ren := {
  mixed := by kernel_rfl
  f111 := Tryd.func43.trans (congrArg some (by kernel_rfl))
  t0 := Tryd.underlying0
  a0 := Tryd.isAgg0
  z0 := Tryd.sizeOf0
  v0 := Tryd.zeroValue0
  t3 := Tryd.underlying3
  a3 := Tryd.isAgg3
  z3 := Tryd.sizeOf3
  v3 := Tryd.zeroValue3
  t4 := Tryd.underlying4
  a4 := Tryd.isAgg4
  z4 := Tryd.sizeOf4
  v4 := Tryd.zeroValue4
  t28 := Tryd.underlying22
  a28 := Tryd.isAgg22
  z28 := Tryd.sizeOf22
  v28 := Tryd.zeroValue22 }
open Go.RowKit Go.Lib in
/-- slices.Equal at []int: "Equal reports whether two slices are equal: the same length and all elements equal. If the lengths are different, Equal returns false. Otherwise, the elements are compared in increasing index order, and the comparison stops at the first unequal pair. Empty and nil slices are considered equal.": IT RETURNS WHETHER THE TWO LISTS OF ELEMENTS ARE ONE; the world is as it was but for the count of draws (the test 's1[i] != s2[i]' has two reads, whose order the model draws, once a round). 'xs', 'ys': what the cells behind the two addresses hold (the spare capacity too, if you have it); 'xs.take n', 'ys.take m': the elements. THE TWO SLICES MAY OVERLAP. (LAID: no walk: one application.) -/
theorem Tryd.slices_Equal_int (b1 o1 n c b2 o2 m d : Nat) (xs ys : List Int) (w : World) (hx : n ≤ xs.length) (hy : m ≤ ys.length) (hbig : n ≤ 9223372036854775807) (hbig2 : m ≤ 9223372036854775807) (hc1 : ∀ j, j < xs.length → w.cell? ⟨b1, o1 + j, none⟩ = some (.int .i64 (xs.getD j 0))) (hc2 : ∀ j, j < ys.length → w.cell? ⟨b2, o2 + j, none⟩ = some (.int .i64 (ys.getD j 0))) :
    Calls Tryd.prog 43 #[.slice (some ⟨b1, o1, none⟩) n c, .slice (some ⟨b2, o2, none⟩) m d] w fun e w' => e = .returned (.bool (xs.take n == ys.take m)) ∧ ∃ q, w' = w.drewN q := Any.slices_Equal_int Tryd.lays111 b1 o1 n c b2 o2 m d xs ys w hx hy hbig hbig2 hc1 hc2
open Go.RowKit Go.Lib in
/-- The same where the first is of length 0 (a nil one too): no cell is asked for. (LAID: no walk: one application.) -/
theorem Tryd.slices_Equal_int_empty (a1 a2 : Option Addr) (c m d : Nat) (w : World) (hbig2 : m ≤ 9223372036854775807) :
    Calls Tryd.prog 43 #[.slice a1 0 c, .slice a2 m d] w fun e w' => e = .returned (.bool (decide (m = 0))) ∧ w' = w := Any.slices_Equal_int_empty Tryd.lays111 a1 a2 c m d w hbig2
open Go.RowKit Go.Lib in
theorem Tryd.slices_Equal_int_lens (a1 a2 : Option Addr) (n c m d : Nat) (w : World) (hnm : n ≠ m) :
    Calls Tryd.prog 43 #[.slice a1 n c, .slice a2 m d] w fun e w' => e = .returned (.bool false) ∧ w' = w := Any.slices_Equal_int_lens Tryd.lays111 a1 a2 n c m d w hnm
end Go.Proofs

namespace Go.Proofs.YtmhhjchnjaefhaaDoor
open Go Go.RowKit
/-- In order. -/
def srt (xs : List Int) : List Int := xs.mergeSort fun x y => decide (x ≤ y)
end Go.Proofs.YtmhhjchnjaefhaaDoor


namespace Go.Proofs.YtmhhjchnjaefhaaDoor
open Go Go.RowKit
/-- Slices that are read. -/
def SlsAt (w : World) (b off : Nat) (xss : List (List Int)) : Prop := ∀ (i : Nat) (row : List Int), xss[i]? = some row → ∃ a c, w.cell? ⟨b, off + i, none⟩ = some (.slice a row.length c) ∧ IntsAt w a row
theorem SlsAt.later {w w' : World} {b off : Nat} {xss : List (List Int)} (h : SlsAt w b off xss) (hb : Below w.heap.size w w') : SlsAt w' b off xss := fun i row hi => by
  obtain ⟨a, c, h1, h2⟩ := h i row hi
  exact ⟨a, c, (hb.cell (p := ⟨b, off + i, none⟩) (World.block_lt_of_cell? w _ h1)).trans h1, h2.later hb⟩
end Go.Proofs.YtmhhjchnjaefhaaDoor


namespace Go.Proofs.YtmhhjchnjaefhaaDoor
open Go Go.RowKit
theorem IntsAt.setOther {w : World} {a : Option Addr} {xs : List Int} (h : IntsAt w a xs) (p : Addr) (u : Value) (hp : ∀ x, a = some x → x.block ≠ p.block) : IntsAt (w.setCell p u) a xs := by
  intro i v hi
  obtain ⟨b, off, he, hc⟩ := h i v hi
  refine ⟨b, off, he, ?_⟩
  have hb := hp _ he
  exact (World.cell?_setCell_far w p ⟨b, off + i, none⟩ u fun e => hb e.symm).trans hc
end Go.Proofs.YtmhhjchnjaefhaaDoor


namespace Go.Proofs.YtmhhjchnjaefhaaDoor
open Go Go.RowKit
theorem sEq_any (xs ys : List Int) (a b : Option Addr) (c d : Nat) (w : World) (hx : xs.length ≤ 1000000000) (hA : IntsAt w a xs) (hB : IntsAt w b ys) :
    Calls Tryd.prog 43 #[.slice a xs.length c, .slice b ys.length d] w fun e w' => e = .returned (.bool (decide (xs = ys))) ∧ Below w.heap.size w w' := by
  by_cases hl : xs.length = ys.length
  · rcases Nat.eq_zero_or_pos xs.length with h0 | h0
    · rw [h0]
      refine (Tryd.slices_Equal_int_empty a b c ys.length d w (by omega)).mono ?_
      rintro e w' ⟨rfl, rfl⟩
      obtain rfl := List.eq_nil_of_length_eq_zero h0
      obtain rfl := List.eq_nil_of_length_eq_zero (show ys.length = 0 by omega)
      exact ⟨rfl, Below.refl _ _⟩
    · obtain ⟨b1, o1, rfl, _, h1⟩ := hA.open h0
      obtain ⟨b2, o2, rfl, _, h2⟩ := hB.open (by omega)
      refine (Tryd.slices_Equal_int b1 o1 xs.length c b2 o2 ys.length d xs ys w (Nat.le_refl _) (Nat.le_refl _) (by omega) (by omega) h1 h2).mono ?_
      rintro e w' ⟨rfl, q, rfl⟩
      rw [List.take_of_length_le (Nat.le_refl _), List.take_of_length_le (Nat.le_refl _)]
      refine ⟨ret_bool ?_, below_drewNN (Below.refl _ _) q⟩
      by_cases e : xs = ys <;> simp [e]
  · refine (Tryd.slices_Equal_int_lens a b xs.length c ys.length d w hl).mono ?_
    rintro e w' ⟨rfl, rfl⟩
    exact ⟨ret_bool (decide_eq_false fun e => hl (by rw [e])).symm, Below.refl _ _⟩
end Go.Proofs.YtmhhjchnjaefhaaDoor


namespace Go.Proofs.YtmhhjchnjaefhaaDoor
open Go Go.RowKit
/-- Are two diagrams equal? -/
def eqD (S M : List Int) (L : Int) (T N : List Int) (K : Int) : Bool := decide (S = T ∧ M = N ∧ L = K)
set_option maxRecDepth 100000 in
set_option maxHeartbeats 4000000 in
theorem equalD_any (S M T N : List Int) (L K : Int) (aS aM bS bM : Option Addr) (cS cM dS dM : Nat) (w : World) (hSl : S.length ≤ 1000000000) (hMl : M.length ≤ 1000000000) (hS : IntsAt w aS S) (hM : IntsAt w aM M) (hT : IntsAt w bS T) (hN : IntsAt w bM N) :
    Calls Tryd.prog 22 #[.agg #[.slice aS S.length cS, .slice aM M.length cM, .int .i64 L], .agg #[.slice bS T.length dS, .slice bM N.length dM, .int .i64 K]] w fun e w' => e = .returned (.bool (eqD S M L T N K)) ∧ Below w.heap.size w w' := by
  obtain ⟨W, hW⟩ : ∃ W, W = ((w.alloc (.cells #[.slice aS S.length cS, .slice aM M.length cM, .int .i64 L] 24)).alloc (.cells #[.slice bS T.length dS, .slice bM N.length dM, .int .i64 K] 24)) := ⟨_, rfl⟩
  have h0 : HH w W [(w.heap.size, rowO 24 [.slice aS S.length cS, .slice aM M.length cM, .int .i64 L]), (w.heap.size + 1, rowO 24 [.slice bS T.length dS, .slice bM N.length dM, .int .i64 K])] [] := by rw [hW]; exact (((HH.start w).alloc #[.slice aS S.length cS, .slice aM M.length cM, .int .i64 L] 24 rfl rfl).alloc #[.slice bS T.length dS, .slice bM N.length dM, .int .i64 K] 24 (by simp) rfl)
  have H0 := Lib.hid h0
  have HI1 : Hid (∀ W', Below w.heap.size w W' → Calls Tryd.prog 43 #[.slice aS S.length cS, .slice bS T.length dS] W' fun e w' => e = .returned (.bool (decide (S = T))) ∧ Below W'.heap.size W' w') := Lib.hid fun W' h => sEq_any S T aS bS cS dS W' hSl (hS.later h) (hT.later h)
  have HI2 : Hid (∀ W', Below w.heap.size w W' → Calls Tryd.prog 43 #[.slice aM M.length cM, .slice bM N.length dM] W' fun e w' => e = .returned (.bool (decide (M = N))) ∧ Below W'.heap.size W' w') := Lib.hid fun W' h => sEq_any M N aM bM cM dM W' hMl (hM.later h) (hN.later h)
  obtain ⟨r, hr⟩ : ∃ r, r = eqD S M L T N K := ⟨_, rfl⟩
  rw [← hr]
  have Hr := Lib.hid hr
  clear h0 hS hM hT hN hSl hMl hr
  by_cases e1 : S = T
  · have g1 := decide_eq_true e1
    rw [g1] at HI1
    by_cases e2 : M = N
    · have g2 := decide_eq_true e2
      rw [g2] at HI2
      by_cases e3 : L = K
      · obtain rfl : r = true := by rw [Hr.out]; exact decide_eq_true ⟨e1, e2, e3⟩
        have t1 : (L == K) = true := by rw [e3]; exact beq_self_eq_true _
        clear e1 g1 e2 g2 e3 Hr
        go_enter Tryd.func22, Tryd.ntmps22
        go_wp2_with fail
        rw [← hW]
        clear hW
        refine (HI1.out W H0.out.below).mono ?_
        rintro e w1 ⟨rfl, hb1⟩
        have H1 := Lib.hid (H0.out.call hb1)
        clear hb1 H0
        have hc0_0 := H1.out.cell (k := 0) (i := 0) rfl rfl
        have hc0_1 := H1.out.cell (k := 0) (i := 1) rfl rfl
        have hc0_2 := H1.out.cell (k := 0) (i := 2) rfl rfl
        have hc1_0 := H1.out.cell (k := 1) (i := 0) rfl rfl
        have hc1_1 := H1.out.cell (k := 1) (i := 1) rfl rfl
        have hc1_2 := H1.out.cell (k := 1) (i := 2) rfl rfl
        go_wp2_with fail
        refine (HI2.out w1 H1.out.below).mono ?_
        rintro e w2 ⟨rfl, hb2⟩
        have H2 := Lib.hid (H1.out.call hb2)
        clear hb2 H1
        clear hc0_0 hc0_1 hc0_2 hc1_0 hc1_1 hc1_2
        have hc0_0 := H2.out.cell (k := 0) (i := 0) rfl rfl
        have hc0_1 := H2.out.cell (k := 0) (i := 1) rfl rfl
        have hc0_2 := H2.out.cell (k := 0) (i := 2) rfl rfl
        have hc1_0 := H2.out.cell (k := 1) (i := 0) rfl rfl
        have hc1_1 := H2.out.cell (k := 1) (i := 1) rfl rfl
        have hc1_2 := H2.out.cell (k := 1) (i := 2) rfl rfl
        go_wp2_with fail
        go_ret
        exact ⟨rfl, H2.out.below⟩
      · obtain rfl : r = false := by rw [Hr.out]; exact decide_eq_false (fun e => e3 e.2.2)
        have t1 : (L == K) = false := by rw [beq_eq_false_iff_ne]; exact e3
        clear e1 g1 e2 g2 e3 Hr
        go_enter Tryd.func22, Tryd.ntmps22
        go_wp2_with fail
        rw [← hW]
        clear hW
        refine (HI1.out W H0.out.below).mono ?_
        rintro e w1 ⟨rfl, hb1⟩
        have H1 := Lib.hid (H0.out.call hb1)
        clear hb1 H0
        have hc0_0 := H1.out.cell (k := 0) (i := 0) rfl rfl
        have hc0_1 := H1.out.cell (k := 0) (i := 1) rfl rfl
        have hc0_2 := H1.out.cell (k := 0) (i := 2) rfl rfl
        have hc1_0 := H1.out.cell (k := 1) (i := 0) rfl rfl
        have hc1_1 := H1.out.cell (k := 1) (i := 1) rfl rfl
        have hc1_2 := H1.out.cell (k := 1) (i := 2) rfl rfl
        go_wp2_with fail
        refine (HI2.out w1 H1.out.below).mono ?_
        rintro e w2 ⟨rfl, hb2⟩
        have H2 := Lib.hid (H1.out.call hb2)
        clear hb2 H1
        clear hc0_0 hc0_1 hc0_2 hc1_0 hc1_1 hc1_2
        have hc0_0 := H2.out.cell (k := 0) (i := 0) rfl rfl
        have hc0_1 := H2.out.cell (k := 0) (i := 1) rfl rfl
        have hc0_2 := H2.out.cell (k := 0) (i := 2) rfl rfl
        have hc1_0 := H2.out.cell (k := 1) (i := 0) rfl rfl
        have hc1_1 := H2.out.cell (k := 1) (i := 1) rfl rfl
        have hc1_2 := H2.out.cell (k := 1) (i := 2) rfl rfl
        go_wp2_with fail
        go_ret
        exact ⟨rfl, H2.out.below⟩
    · have g2 := decide_eq_false e2
      rw [g2] at HI2
      obtain rfl : r = false := by rw [Hr.out]; exact decide_eq_false (fun e => e2 e.2.1)
      clear e1 g1 e2 g2 Hr
      go_enter Tryd.func22, Tryd.ntmps22
      go_wp2_with fail
      rw [← hW]
      clear hW
      refine (HI1.out W H0.out.below).mono ?_
      rintro e w1 ⟨rfl, hb1⟩
      have H1 := Lib.hid (H0.out.call hb1)
      clear hb1 H0
      have hc0_0 := H1.out.cell (k := 0) (i := 0) rfl rfl
      have hc0_1 := H1.out.cell (k := 0) (i := 1) rfl rfl
      have hc0_2 := H1.out.cell (k := 0) (i := 2) rfl rfl
      have hc1_0 := H1.out.cell (k := 1) (i := 0) rfl rfl
      have hc1_1 := H1.out.cell (k := 1) (i := 1) rfl rfl
      have hc1_2 := H1.out.cell (k := 1) (i := 2) rfl rfl
      go_wp2_with fail
      refine (HI2.out w1 H1.out.below).mono ?_
      rintro e w2 ⟨rfl, hb2⟩
      have H2 := Lib.hid (H1.out.call hb2)
      clear hb2 H1
      clear hc0_0 hc0_1 hc0_2 hc1_0 hc1_1 hc1_2
      have hc0_0 := H2.out.cell (k := 0) (i := 0) rfl rfl
      have hc0_1 := H2.out.cell (k := 0) (i := 1) rfl rfl
      have hc0_2 := H2.out.cell (k := 0) (i := 2) rfl rfl
      have hc1_0 := H2.out.cell (k := 1) (i := 0) rfl rfl
      have hc1_1 := H2.out.cell (k := 1) (i := 1) rfl rfl
      have hc1_2 := H2.out.cell (k := 1) (i := 2) rfl rfl
      go_wp2_with fail
      go_ret
      exact ⟨rfl, H2.out.below⟩
  · have g1 := decide_eq_false e1
    rw [g1] at HI1
    obtain rfl : r = false := by rw [Hr.out]; exact decide_eq_false (fun e => e1 e.1)
    clear e1 g1 Hr
    go_enter Tryd.func22, Tryd.ntmps22
    go_wp2_with fail
    rw [← hW]
    clear hW
    refine (HI1.out W H0.out.below).mono ?_
    rintro e w1 ⟨rfl, hb1⟩
    have H1 := Lib.hid (H0.out.call hb1)
    clear hb1 H0
    have hc0_0 := H1.out.cell (k := 0) (i := 0) rfl rfl
    have hc0_1 := H1.out.cell (k := 0) (i := 1) rfl rfl
    have hc0_2 := H1.out.cell (k := 0) (i := 2) rfl rfl
    have hc1_0 := H1.out.cell (k := 1) (i := 0) rfl rfl
    have hc1_1 := H1.out.cell (k := 1) (i := 1) rfl rfl
    have hc1_2 := H1.out.cell (k := 1) (i := 2) rfl rfl
    go_wp2_with fail
    go_ret
    exact ⟨rfl, H1.out.below⟩
/-- A list of diagrams that is read. -/
def RdD (w : World) (A : Option Addr) (ds : List Dgm) : Prop := ∀ (i : Nat) (d : Dgm), ds[i]? = some d → ∃ b o a c e f, A = some ⟨b, o, none⟩ ∧ w.cell? ⟨b, o + i * 3, none⟩ = some (.slice a d.1.length c) ∧ w.cell? ⟨b, o + i * 3 + 1, none⟩ = some (.slice e d.2.1.length f) ∧ w.cell? ⟨b, o + i * 3 + 2, none⟩ = some (.int .i64 d.2.2) ∧ IntsAt w a d.1 ∧ IntsAt w e d.2.1
theorem DLO.rd {w : World} {B B0 : Nat} {A : Option Addr} {C : Nat} {ds : List Dgm} (h : DLO w B B0 A C ds) : RdD w A ds := fun i d hd => by
  have hi : i < ds.length := (List.getElem?_eq_some_iff.1 hd).1
  obtain ⟨b, o, rfl, hc⟩ := h.open (by omega)
  obtain ⟨a, c, e, f, h1, h2, h3, h4, h5⟩ := hc i d hd
  exact ⟨b, o, a, c, e, f, rfl, h1, h2, h3, h4.at, h5.at⟩
theorem RdD.later {w w' : World} {A : Option Addr} {ds : List Dgm} (h : RdD w A ds) (hb : Below w.heap.size w w') : RdD w' A ds := fun i d hd => by
  obtain ⟨b, o, a, c, e, f, rfl, h1, h2, h3, h4, h5⟩ := h i d hd
  exact ⟨b, o, a, c, e, f, rfl, (hb.cell (p := ⟨b, o + i * 3, none⟩) (World.block_lt_of_cell? _ _ h1)).trans h1, (hb.cell (p := ⟨b, o + i * 3 + 1, none⟩) (World.block_lt_of_cell? _ _ h2)).trans h2, (hb.cell (p := ⟨b, o + i * 3 + 2, none⟩) (World.block_lt_of_cell? _ _ h3)).trans h3, h4.later hb, h5.later hb⟩
theorem eqD_same' (S M : List Int) (L : Int) : eqD S M L S M L = true := by unfold eqD; simp
end Go.Proofs.YtmhhjchnjaefhaaDoor


namespace Go.Proofs.YtmhhjchnjaefhaaDoor
open Go Go.RowKit
theorem CellsOf.rd {w : World} {B B0 : Nat} {E : TypeId} {A : Option Addr} {c : Nat} {vs : List Value} {ds : List Dgm} (h : CellsOf w B0 vs ds) (ho : Own w B E A c vs) : RdD w A ds := fun i d hd => by
  have hi : i < ds.length := (List.getElem?_eq_some_iff.1 hd).1
  have hl := h.1
  obtain ⟨b, o, rfl, _, _, hc, _⟩ := ho.open (by omega)
  obtain ⟨a, c, e, f, h1, h2, h3, h4, h5⟩ := h.2 i d hd
  exact ⟨b, o, a, c, e, f, rfl, hc _ _ h1, by rw [Nat.add_assoc]; exact hc _ _ h2, by rw [Nat.add_assoc]; exact hc _ _ h3, h4.at, h5.at⟩
set_option maxRecDepth 100000 in
set_option maxHeartbeats 1000000 in
theorem code_no (S M : List Int) (L : Int) (aS aM : Option Addr) (cS cM : Nat) (w : World) (hSl : S.length ≤ 1000000000) (hMl : M.length ≤ 1000000000) (hv : vldB S M L = false) (hS : IntsAt w aS S) (hM : IntsAt w aM M) :
    Calls Tryd.prog 25 #[.agg #[.slice aS S.length cS, .slice aM M.length cM, .int .i64 L]] w fun e w' => e = .returned (.slice none 0 0) ∧ Below w.heap.size w w' := by
  have HV : Hid (∀ W', Below w.heap.size w W' → Calls Tryd.prog 18 #[.agg #[.slice aS S.length cS, .slice aM M.length cM, .int .i64 L]] W' fun e w' => e = .returned (.bool false) ∧ Below W'.heap.size W' w') := Lib.hid fun W' h => by
    have g := valid_any S M L aS aM cS cM W' (by omega) (by omega) (hS.later h) (hM.later h)
    rw [hv] at g; exact g
  have H0 := Lib.hid ((HH.start w).alloc #[.slice aS S.length cS, .slice aM M.length cM, .int .i64 L] 24 rfl rfl)
  clear hv hS hM
  generalize S.length = n at *
  generalize M.length = N at *
  go_enter Tryd.func25, Tryd.ntmps25
  have k00 := H0.out.cell (k := 0) (i := 0) rfl rfl
  have k01 := H0.out.cell (k := 0) (i := 1) rfl rfl
  have k02 := H0.out.cell (k := 0) (i := 2) rfl rfl
  go_wp2_with fail
  clear k00 k01 k02
  refine (HV.out _ H0.out.below).mono ?_
  rintro e w1 ⟨rfl, hb⟩
  have H1 := Lib.hid (H0.out.call hb)
  clear hb H0 
  go_wp2_with fail
  go_ret
  exact ⟨rfl, H1.out.below⟩
set_option maxRecDepth 100000 in
set_option maxHeartbeats 1000000 in
theorem code_yes (S M : List Int) (L : Int) (aS aM : Option Addr) (cS cM : Nat) (w : World) (hv : vldB S M L = true) (h20 : S.length ≤ 20) (hS : IntsAt w aS S) (hM : IntsAt w aM M) :
    Calls Tryd.prog 25 #[.agg #[.slice aS S.length cS, .slice aM M.length cM, .int .i64 L]] w fun e w' => ∃ a c, e = .returned (.slice a (codeOf S M L).length c) ∧ Own w' w.heap.size 3 a c (ints (codeOf S M L)) ∧ Below w.heap.size w w' := by
  have hs := vldB_shape hv
  have hMl := hs.len
  have HV : Hid (∀ W', Below w.heap.size w W' → Calls Tryd.prog 18 #[.agg #[.slice aS S.length cS, .slice aM M.length cM, .int .i64 L]] W' fun e w' => e = .returned (.bool true) ∧ Below W'.heap.size W' w') := Lib.hid fun W' h => by
    have g := valid_any S M L aS aM cS cM W' (by omega) (by omega) (hS.later h) (hM.later h)
    rw [hv] at g; exact g
  have HP : Hid (∀ W', Below w.heap.size w W' → Calls Tryd.prog 44 #[.agg #[.slice aS S.length cS, .slice aM M.length cM, .int .i64 L]] W' fun e w' => ∃ A C ys, e = .returned (.slice A ys.length C) ∧ Hid (codeY L ys ys.length = codeOf S M L ∧ ys.length ≤ 20 ∧ ∀ i, i < ys.length → (ys.getD i ([], [], 0)).1.length ≤ 100 ∧ (ys.getD i ([], [], 0)).2.1.length ≤ 20 ∧ (codeY L ys i).length ≤ 2100) ∧ RdD w' A ys ∧ Below W'.heap.size W' w') := Lib.hid fun W' h => by
    refine (cpieces_any S M L aS aM cS cM W' hv h20 (hS.later h) (hM.later h)).mono ?_
    rintro e w' ⟨A, C, ys, vs, rfl, hsr, ho, hc, hb⟩
    have hfew : ∀ p, p ∈ ys → p.1.length ≤ 100 ∧ p.2.1.length ≤ 20 := fun p hp => by
      have := piece_few (fun x hx => hs.mt_lt hx) hsr hp
      omega
    have hyl : ys.length ≤ 20 := by
      rw [hsr.perm.length_eq, List.length_map]; exact Nat.le_trans (grp_len M S.length) h20
    refine ⟨A, C, ys, rfl, Lib.hid ⟨codeY_all hsr, hyl, fun i hi => ?_⟩, hc.rd ho, hb⟩
    have hm : ys.getD i ([], [], 0) ∈ ys := by rw [List.getD_eq_getElem?_getD, List.getElem?_eq_getElem hi]; exact List.getElem_mem _
    have h3 := codeY_few L (fun p hp => (hfew p hp).1) i (Nat.le_of_lt hi)
    have h4 := Nat.mul_le_mul (show i ≤ 20 by omega) (Nat.le_refl (100 + 1))
    exact ⟨(hfew _ hm).1, (hfew _ hm).2, by omega⟩
  obtain ⟨i0, hi0, hz0, hz1, hz2⟩ := info_parts Tryd.info3
  have H0 := Lib.hid ((HH.start w).alloc #[.slice aS S.length cS, .slice aM M.length cM, .int .i64 L] 24 rfl rfl)
  clear hv hS hM hs hMl h20
  generalize codeOf S M L = CO at *
  generalize S.length = n at *
  generalize M.length = N at *
  go_enter Tryd.func25, Tryd.ntmps25
  have k00 := H0.out.cell (k := 0) (i := 0) rfl rfl
  have k01 := H0.out.cell (k := 0) (i := 1) rfl rfl
  have k02 := H0.out.cell (k := 0) (i := 2) rfl rfl
  go_wp2_with fail
  clear k00 k01 k02
  refine (HV.out _ H0.out.below).mono ?_
  rintro e w1 ⟨rfl, hb⟩
  have H1 := Lib.hid (H0.out.call hb)
  clear hb H0 HV
  have k00 := H1.out.cell (k := 0) (i := 0) rfl rfl
  have k01 := H1.out.cell (k := 0) (i := 1) rfl rfl
  have k02 := H1.out.cell (k := 0) (i := 2) rfl rfl
  go_wp2_with fail
  clear k00 k01 k02
  refine (HP.out _ H1.out.below).mono ?_
  rintro e w2 ⟨A, C, ys, rfl, HY, hrd, hb⟩
  have H2 := Lib.hid (H1.out.call hb)
  have HR := Lib.hid hrd
  clear hrd hb H1 HP
  have hyl : ys.length ≤ 20 := HY.out.2.1
  have HBw := Lib.hid H2.out.below
  have k2 := H2.out.cell (k := 0) (i := 2) rfl rfl
  have J0 : Hid (HH w2 (w2.alloc (.cells #[.int .i64 L, .int .i64 (ys.length : Int)] 3)) [] [⟨some ⟨w2.heap.size, 0, none⟩, 2, 3, ints (codeY L ys 0)⟩]) := Lib.hid ((HH.start w2).addSl ((Below.refl _ _).alloc (Nat.le_refl _) _) (Own.made #[.int .i64 L, .int .i64 (ys.length : Int)] (Nat.le_refl _)))
  go_wp2_with fail
  clear k2 H2
  go_loopg [19, 4] ys.length (fun g v s4 wr => ∃ (i : Nat) (A2 : Option Addr) (d : Nat), i ≤ ys.length ∧ g = ys.length - i ∧ v = .int .i64 i ∧ s4 = .slice A2 (codeY L ys i).length d ∧ HH w2 wr [] [⟨A2, d, 3, ints (codeY L ys i)⟩])
  case atStart => exact ⟨0, _, 2, Nat.zero_le _, rfl, rfl, rfl, J0.out⟩
  case round =>
    obtain ⟨i, A2, d, hi, rfl, rfl, rfl, hh⟩ := hrel
    have Jr := Lib.hid hh
    clear hh J0
    by_cases hil : i < ys.length
    · obtain ⟨b, o, a, c, e, f, rfl, g1, g2, g3, h4, h5⟩ := HR.out i _ (getD_some (d := ([], [], 0)) hil)
      have h1 := (Jr.out.below.cell (p := ⟨b, o + i * 3, none⟩) (World.block_lt_of_cell? _ _ g1)).trans g1
      have h2 := (Jr.out.below.cell (p := ⟨b, o + i * 3 + 1, none⟩) (World.block_lt_of_cell? _ _ g2)).trans g2
      have h3 := (Jr.out.below.cell (p := ⟨b, o + i * 3 + 2, none⟩) (World.block_lt_of_cell? _ _ g3)).trans g3
      clear g1 g2 g3
      have HC1 := Lib.hid (codeY_succ L hil)
      obtain ⟨hb1, hb2, hb3⟩ := HY.out.2.2 i hil
      generalize ys.getD i ([], [], 0) = dd at *
      obtain ⟨Xd, Yd, r3⟩ := dd
      dsimp only at *
      have HI := Lib.hid h4
      clear h4 h5
      have hX : Hid ((ints Xd).length = Xd.length * 1) := Lib.hid (by rw [ints_length, Nat.mul_one])
      have Hcy : Hid ((ints (codeY L ys i)).length = (codeY L ys i).length) := Lib.hid (by rw [ints_length])
      generalize hl2 : Yd.length = l2 at *
      have HC2 : Hid (codeY L ys (i + 1) = codeY L ys i ++ [(l2 : Int)] ++ Xd) := HC1
      clear hl2 HC1
      have Hl2 : Hid ((codeY L ys (i + 1)).length = (codeY L ys i).length + 1 + Xd.length) := Lib.hid (by rw [HC2.out, List.length_append, List.length_append]; rfl)
      generalize codeY L ys i = cy at *
      generalize cy.length = ly at *
      generalize Xd.length = l1 at *
      have K0 := Lib.hid (Jr.out.alloc #[.slice a l1 c, .slice e l2 f, .int .i64 r3] 51 (b := wr.heap.size) rfl rfl)
      go_upto_region 8 with fail
      clear h1 h2 h3 Jr
      generalize wr.alloc (.cells #[.slice a l1 c, .slice e l2 f, .int .i64 r3] 51) = v1 at *
      generalize wr.heap.size = q at *
      have y1 := K0.out.cell (k := 0) (i := 1) rfl rfl
      have Ja := Lib.hid (K0.out.call ((Below.refl _ _).alloc (Nat.le_refl _) (.cells #[.int .i64 (l2 : Int)] 3)))
      have Hc0 : Hid ((v1.alloc (.cells #[.int .i64 (l2 : Int)] 3)).cell? ⟨v1.heap.size, 0, none⟩ = some (.int .i64 (l2 : Int))) := Lib.hid ((Row.new v1 #[.int .i64 (l2 : Int)] 3).cell 0)
      have Hl1 := Lib.hid Ja.out.below.size
      go_upto_region 9 with (with_reducible refine wpList_append_one rfl (.tmp 23) (.tmp 27) 22 rfl w2.heap.size 3 i0 (.int .i64 0) 8 Tryd.underlying22 hi0 hz0 hz1 hz2 rfl A2 ly d (ints cy) rfl Hcy.out (Ja.out.sl (k := 0) rfl) _ 1 (.int .i64 (l2 : Int)) rfl Hc0.out rfl (by omega) (by omega) Hl1.out ?_; intro A3 e3 w7 hO2 hT2 hA2; have HO3 := Lib.hid hO2; have HT3 := Lib.hid hT2; have HA3 := Lib.hid hA2; clear hO2 hT2 hA2)
      have J8 : Hid (HH w2 w7 [(q, rowO 51 [.slice a l1 c, .slice e l2 f, .int .i64 r3])] [⟨A3, e3, 3, ints (cy ++ [(l2 : Int)])⟩]) := Lib.hid (by
        have h := Ja.out.grow (k := 0) rfl HO3.out HT3.out HA3.out
        rw [← ints_snoc]; exact h)
      clear HO3 HT3 HA3 Ja K0 Hc0 Hl1 y1
      have y0 := J8.out.cell (k := 0) (i := 0) rfl rfl
      have Hus : Hid (VAt w7 a (ints Xd)) := Lib.hid (HI.out.later J8.out.below)
      have Hu1 : Hid (∀ u ∈ ints Xd, u.oneCell' = true) := Lib.hid (by
        intro u hu
        obtain ⟨x, _, rfl⟩ := List.mem_map.1 hu
        rfl)
      have Hl1 := Lib.hid J8.out.below.size
      have HO1 : Hid (Own w7 w2.heap.size 3 A3 (e3 * 1) (ints (cy ++ [(l2 : Int)]))) := Lib.hid (by rw [Nat.mul_one]; exact J8.out.sl (k := 0) rfl)
      have Hvl : Hid ((ints (cy ++ [(l2 : Int)])).length = (ly + 1) * 1) := Lib.hid (by rw [ints_length, List.length_append, Nat.mul_one, ← Hcy.out, ints_length]; rfl)
      have hdc : ly + 1 ≤ e3 := by have := HO1.out.size; have := Hvl.out; omega
      have Hzc : Hid ((Value.int .i64 0).cells.size = 1) := Lib.hid rfl
      go_wp2_with (with_reducible refine wpList_append_wide rfl (.tmp 29) (.tmp 31) 22 22 rfl w2.heap.size 3 i0 _ 8 1 Tryd.underlying22 Tryd.underlying22 hi0 hz0 hz1 (by decide) hz2 Hzc.out A3 (ly + 1) e3 (ints (cy ++ [(l2 : Int)])) rfl Hvl.out hdc HO1.out a l1 c (ints Xd) rfl hX.out Hus.out Hu1.out (by omega) (by omega) Hl1.out ?_; intro A7 e7 w8 hle hO7 hT7 hA7; have HO7 := Lib.hid hO7; have HT7 := Lib.hid hT7; have HA7 := Lib.hid hA7; clear hO7 hT7 hA7)
      have J9 : Hid (HH w2 w8 [] [⟨A7, e7, 3, ints (codeY L ys (i + 1))⟩]) := Lib.hid (by
        have ho := HO7.out
        rw [Nat.mul_one] at ho
        have h := J8.out.grow (k := 0) rfl ho HT7.out HA7.out
        have e : ints (cy ++ [(l2 : Int)]) ++ ints Xd = ints (codeY L ys (i + 1)) := by rw [HC2.out]; simp only [ints, List.map_append]
        rw [← e]
        exact h.forgetK (List.nil_sublist _))
      go_roundg (ys.length - (i + 1))
      case measure => omega
      case rel => exact ⟨i + 1, A7, e7, by omega, rfl, by go_num, by rw [Hl2.out], J9.out⟩
    · obtain rfl : i = ys.length := by omega
      have HE : Hid (codeY L ys ys.length = CO) := Lib.hid HY.out.1
      rw [HE.out] at Jr
      rw [HE.out]
      clear HE
      go_wp2_with fail
      go_ret
      exact ⟨A2, d, rfl, (Jr.out.sl (k := 0) rfl).mono HBw.out.size, HBw.out.trans (Jr.out.below.mono HBw.out.size)⟩
end Go.Proofs.YtmhhjchnjaefhaaDoor


