/- Plain law: the prime factors are valid, have no cuts, and as many crossings as the diagram. Plain: the lexicographic comparison of lists of integers. Plain: the breadth-first numbering of a component from a crossing, and its code. Plain: the piece of a component: its least code, the order that yields it, how many crossings yield it. Plain: the numbering from a crossing lists its component. Plain: the pieces of a diagram within another one; the codes do not depend on the numbers of the crossings. -/
import Derived.WalkKit
import Derived.WalkSpells
import Derived.WalkLawsBesides
import Derived.Deep.AppendSrc
import Derived.Deep.LoopGhost
import Derived.Deep.QuietTactic
import Derived.Deep.RegionWith
import Derived.Deep.DeepMust
import Derived.Deep.DeepFit
import Derived.BigQuiet
import Derived.Lib.Hide
import Derived.Outline
import Derived.Test.YtmjoijfafachhaaGreatDoorProg
import Derived.Deep.Matrix
import Derived.Deep.DeepCutAuto
import Derived.Deep.RegionLaw
import Derived.Deep.RegionHeld3
import Derived.Shelf.Small.Bits
import Derived.Shelf.Small.Wraps
import Derived.Shelf.Strconv.Itoa0
import Derived.Shelf.Sort.Plain
import Derived.Shelf.Slices.Turned
import Derived.Shelf.Slices.Equal
import Derived.Ground.Names2Prog
import Derived.Shelf.Slices.Clone
import Derived.Shelf.Slices.CompactI
import Derived.Shelf.Slices.SearchI
import Derived.Shelf.Slices.Cells
import Derived.Shelf.Slices.In.SortNone
import Derived.Shelf.Slices.Empties2
import Derived.Ground.SlgnProg
import Derived.Shelf.SlicesE.Clone
import Derived.Lib.AppendZeros
import Derived.Deep.RegionHeld
import Derived.Shelf.Strings.Builder1
import Derived.Shelf.Strings.BuilderF
import Derived.Shelf.Strings.BuilderK
import Derived.Shelf.Strconv.Itoa1
import Derived.Shelf.LaysM
import Derived.Shelf.Strconv.Itoa2
import Derived.Shelf.Strconv.Itoa3
import Derived.Test.YtmjoijfafachhaaGreatDoorZuAa
import Derived.Test.YtmjoijfafachhaaGreatDoorZuAb
import Derived.Test.YtmjoijfafachhaaGreatDoorZuAc
import Derived.Test.YtmjoijfafachhaaGreatDoorZuAd
import Derived.Test.YtmjoijfafachhaaGreatDoorZuAe
import Derived.Test.YtmjoijfafachhaaGreatDoorZuAf
import Derived.Test.YtmjoijfafachhaaGreatDoorZuAg
import Derived.Test.YtmjoijfafachhaaGreatDoorZuAh
import Derived.Test.YtmjoijfafachhaaGreatDoorZuAj
import Derived.Test.YtmjoijfafachhaaGreatDoorZuAk
import Derived.Test.YtmjoijfafachhaaGreatDoorZuAl
import Derived.Test.YtmjoijfafachhaaGreatDoorZuAm
import Derived.Test.YtmjoijfafachhaaGreatDoorZuAn
import Derived.Test.YtmjoijfafachhaaGreatDoorZuAo
import Derived.Test.YtmjoijfafachhaaGreatDoorZuAp
import Derived.Test.YtmjoijfafachhaaGreatDoorZuAq
import Derived.Test.YtmjoijfafachhaaGreatDoorZuAr
namespace Go.Proofs.YtmjoijfafachhaaGreatDoor
open Go Go.RowKit
/-- One graph component at most. -/
def Cn (M : List Int) (n : Nat) : Prop := ∀ c d, c < n → d < n → Conn M c d
def crs (ds : List Dgm) : Nat := (ds.map fun d => d.1.length).sum
theorem crs_append (a b : List Dgm) : crs (a ++ b) = crs a + crs b := by unfold crs; rw [List.map_append, List.sum_append_nat]
theorem crs_one (d : Dgm) : crs [d] = d.1.length := by unfold crs; simp
theorem part_cn {S M : List Int} {L : Int} (hv : vldB S M L = true) {c : Nat} (hcn : c < S.length) : Cn (partM M (clsN M S.length c)) (clsN M S.length c).length := fun a b ha hb => by
  have hm := (vldB_shape hv).mates2
  have hw := whole_cls hm.ok c
  have hg := part_emb hv hw
  have hp := part_valid hv hw (L' := 0) (Int.le_refl _) (by omega)
  have hpm := (vldB_shape hp).mates2
  rw [partS_len] at hpm
  have ga := (mem_clsN.1 (part_get hw ha).1)
  have gb := (mem_clsN.1 (part_get hw hb).1)
  exact (hg.conn_iff hpm ha hb).1 ((hm.ok.conn_symm hcn ga.2).trans gb.2)
theorem fac_cn {S M : List Int} {L : Int} (hv : vldB S M L = true) {p : Nat × Nat} (hp : p ∈ cutsL S M) : Cn (facA S M p.1 p.2).2.1 (facA S M p.1 p.2).1.length ∧ Cn (facB S M p.1 p.2).2.1 (facB S M p.1 p.2).1.length := by
  obtain ⟨h1, h2, h3, h4, h5, h6⟩ := (mem_cuts hv).1 hp
  obtain ⟨hv', _⟩ := cut_sph hv (by omega) h2 h3 h4 (by omega) h5 h6
  have a := part_cn hv' (c := p.1 / 4) (by omega)
  have b := part_cn hv' (c := p.2 / 4) (by omega)
  constructor
  · show Cn (partM (crossL M p.1 p.2) (clsN (crossL M p.1 p.2) S.length (p.1 / 4))) (partS S (clsN (crossL M p.1 p.2) S.length (p.1 / 4))).length
    rw [partS_len]; exact a
  · show Cn (partM (crossL M p.1 p.2) (clsN (crossL M p.1 p.2) S.length (p.2 / 4))) (partS S (clsN (crossL M p.1 p.2) S.length (p.2 / 4))).length
    rw [partS_len]; exact b
theorem fac_total {S M : List Int} {L : Int} (hv : vldB S M L = true) (hcn : Cn M S.length) {p : Nat × Nat} (hp : p ∈ cutsL S M) : (facA S M p.1 p.2).1.length + (facB S M p.1 p.2).1.length = S.length := by
  have hle := (fac_sum hv hp).1
  obtain ⟨h1, h2, h3, h4, h5, h6⟩ := (mem_cuts hv).1 hp
  have hx : p.1 < 4 * S.length := by omega
  obtain ⟨hv', hno⟩ := cut_sph hv hx h2 h3 h4 (by omega) h5 h6
  have hm := (vldB_shape hv').mates2.ok
  have hsub := (List.nodup_range (n := S.length)).length_le_of_subset (l₂ := clsN (crossL M p.1 p.2) S.length (p.1 / 4) ++ clsN (crossL M p.1 p.2) S.length (p.2 / 4)) fun c hc => by
    have hcl := List.mem_range.1 hc
    have ht := cross_tie hv hx h2 h3 h4 (by omega) hcl (hcn c (p.1 / 4) hcl (by omega))
    rw [List.mem_append]
    have hs := fun (d : Nat) (hd : d < S.length) (h : Conn (crossL M p.1 p.2) c d) => mem_clsN.2 ⟨hcl, hm.conn_symm hcl h⟩
    rcases ht with h | ⟨h | h, _⟩
    · exact .inl (hs _ (by omega) h)
    · exact .inl (hs _ (by omega) h)
    · exact .inr (hs _ (by omega) h)
  rw [List.length_range, List.length_append] at hsub
  have e1 : (facA S M p.1 p.2).1.length = (clsN (crossL M p.1 p.2) S.length (p.1 / 4)).length := partS_len _ _
  have e2 : (facB S M p.1 p.2).1.length = (clsN (crossL M p.1 p.2) S.length (p.2 / 4)).length := partS_len _ _
  omega
theorem primeL_all : ∀ (n : Nat) (S M : List Int) (L : Int), S.length ≤ n → vldB S M L = true → (∀ d ∈ primeL S M L, vldB d.1 d.2.1 d.2.2 = true ∧ cutsL d.1 d.2.1 = []) ∧ (Cn M S.length → crs (primeL S M L) = S.length) := fun n => by
  induction n with
  | zero =>
    intro S M L hn hv
    cases h : cutsL S M with
    | nil =>
      rw [primeL_none h]
      refine ⟨fun d hd => ?_, fun _ => crs_one _⟩
      obtain rfl := List.mem_singleton.1 hd
      exact ⟨hv, h⟩
    | cons p l => have := (fac_cuts0 hv h).2.2.2.1; omega
  | succ n ih =>
    intro S M L hn hv
    cases h : cutsL S M with
    | nil =>
      rw [primeL_none h]
      refine ⟨fun d hd => ?_, fun _ => crs_one _⟩
      obtain rfl := List.mem_singleton.1 hd
      exact ⟨hv, h⟩
    | cons p l =>
      obtain ⟨_, va, vb, la, lb⟩ := fac_cuts0 hv h
      have hp : p ∈ cutsL S M := by rw [h]; exact List.mem_cons_self
      have iA := ih _ _ _ (by omega) va
      have iB := ih _ _ _ (by omega) vb
      rw [primeL_cons hv h]
      refine ⟨fun d hd => ?_, fun hcn => ?_⟩
      · rcases List.mem_append.1 hd with g | g
        · exact iA.1 d g
        · exact iB.1 d g
      · have hc := fac_cn hv hp
        rw [crs_append, iA.2 hc.1, iB.2 hc.2, fac_total hv hcn hp]
theorem split_cn {S M : List Int} {L : Int} (hv : vldB S M L = true) : ∀ d ∈ splitL S M L, Cn d.2.1 d.1.length := fun d hd => by
  unfold splitL at hd
  rcases List.mem_append.1 hd with h | h
  · obtain ⟨G, hG, rfl⟩ := List.mem_map.1 h
    obtain ⟨c, hc, rfl⟩ := List.mem_map.1 hG
    show Cn (partM M (clsN M S.length c)) (partS S (clsN M S.length c)).length
    rw [partS_len]
    exact part_cn hv (mem_leadsN.1 hc).1
  · obtain ⟨_, rfl⟩ := List.mem_replicate.1 h
    intro a b ha
    exact absurd ha (Nat.not_lt_zero _)
theorem groups_total {M : List Int} {n : Nat} (hm : MateOk M n) : ((grpOf M n).map List.length).sum = n := by
  rw [← List.length_flatten]
  have hnd : (grpOf M n).flatten.Nodup := by
    unfold grpOf
    show List.Pairwise (· ≠ ·) _
    rw [List.pairwise_flatten]
    refine ⟨fun l hl => ?_, ?_⟩
    · obtain ⟨c, _, rfl⟩ := List.mem_map.1 hl
      exact (whole_cls hm c).nd
    · rw [List.pairwise_map]
      have hp : (leadsN M n).Pairwise (· < ·) := (range_rising n).sublist List.filter_sublist
      refine List.Pairwise.imp_of_mem ?_ hp
      intro a b ha hb hab c hca d hcb hcd
      subst hcd
      have hb2 := (mem_leadsN.1 hb).2 a hab
      have hbl := (mem_leadsN.1 hb).1
      exact hb2 ((mem_clsN.1 hca).2.trans (hm.conn_symm hbl (mem_clsN.1 hcb).2))
  have hperm : (grpOf M n).flatten.Perm (List.range n) := (List.perm_ext_iff_of_nodup hnd List.nodup_range).2 fun c => by
    rw [List.mem_range]
    constructor
    · intro h
      obtain ⟨G, hG, hc⟩ := List.mem_flatten.1 h
      exact (grp_whole hm hG).1.lt c hc
    · intro h
      exact List.mem_flatten.2 ⟨_, grp_has hm c h, cls_self h⟩
  have := hperm.length_eq
  rwa [List.length_range] at this
theorem split_crs {S M : List Int} {L : Int} (hv : vldB S M L = true) : crs (splitL S M L) = S.length := by
  unfold splitL
  rw [crs_append]
  have h1 : crs ((grpOf M S.length).map fun G => ((partS S G, partM M G, (0 : Int)) : Dgm)) = S.length := by
    have hg := groups_total (vldB_shape hv).mates
    unfold crs
    rw [List.map_map]
    have e : ((fun d : Dgm => d.1.length) ∘ fun G => ((partS S G, partM M G, (0 : Int)) : Dgm)) = List.length := by funext G; exact partS_len S G
    rw [e]; exact hg
  have h2 : crs (List.replicate L.toNat (([], [], 1) : Dgm)) = 0 := by unfold crs; simp
  omega
theorem primes_crs : ∀ (ds : List Dgm), (∀ d ∈ ds, vldB d.1 d.2.1 d.2.2 = true ∧ Cn d.2.1 d.1.length) → (∀ d ∈ primesL ds, vldB d.1 d.2.1 d.2.2 = true ∧ cutsL d.1 d.2.1 = []) ∧ crs (primesL ds) = crs ds := fun ds => by
  induction ds with
  | nil => intro _; exact ⟨fun d hd => absurd hd List.not_mem_nil, rfl⟩
  | cons a ds ih =>
    intro h
    obtain ⟨h1, h2⟩ := h a List.mem_cons_self
    obtain ⟨i1, i2⟩ := ih fun d hd => h d (List.mem_cons_of_mem _ hd)
    obtain ⟨p1, p2⟩ := primeL_all _ _ _ _ (Nat.le_refl _) h1
    have e : primesL (a :: ds) = primeL a.1 a.2.1 a.2.2 ++ primesL ds := rfl
    rw [e, crs_append, p2 h2, i2]
    refine ⟨fun d hd => ?_, ?_⟩
    · rcases List.mem_append.1 hd with g | g
      · exact p1 d g
      · exact i1 d g
    · show _ = crs ([a] ++ ds)
      rw [crs_append, crs_one]
theorem factors_good {S M : List Int} {L : Int} (hv : vldB S M L = true) : (∀ d ∈ factorsL S M L, vldB d.1 d.2.1 d.2.2 = true ∧ cutsL d.1 d.2.1 = []) ∧ crs (factorsL S M L) = S.length := by
  obtain ⟨h1, h2⟩ := primes_crs (splitL S M L) fun d hd => ⟨split_valid hv d hd, split_cn hv d hd⟩
  exact ⟨h1, h2.trans (split_crs hv)⟩
theorem factors_len {S M : List Int} {L : Int} (hv : vldB S M L = true) : (factorsL S M L).length ≤ 64 * 128 := by
  have h1 := primesL_len (split_valid hv) _ (Nat.le_refl _)
  rw [List.take_length] at h1
  have h2 := split_len hv
  unfold factorsL; omega
end Go.Proofs.YtmjoijfafachhaaGreatDoor


namespace Go.Proofs.YtmjoijfafachhaaGreatDoor
open Go Go.RowKit
/-- cmp.Compare. -/
def cmp3 (x y : Int) : Int := if x < y then -1 else if y < x then 1 else 0
/-- slices.Compare. -/
def cmpL : List Int → List Int → Int
  | [], [] => 0
  | [], _ :: _ => -1
  | _ :: _, [] => 1
  | a :: s, b :: t => if cmp3 a b = 0 then cmpL s t else cmp3 a b
theorem cmp3_zero {x y : Int} : cmp3 x y = 0 ↔ x = y := by
  unfold cmp3; split
  · constructor <;> intro h <;> omega
  · split
    · constructor <;> intro h <;> omega
    · constructor <;> intro h <;> omega
theorem cmp3_swap (x y : Int) : cmp3 y x = - cmp3 x y := by
  unfold cmp3; split <;> split <;> (try split) <;> omega
theorem cmp3_vals (x y : Int) : cmp3 x y = -1 ∨ cmp3 x y = 0 ∨ cmp3 x y = 1 := by
  unfold cmp3; split
  · simp
  · split <;> simp
theorem cmpL_zero : ∀ {s t : List Int}, cmpL s t = 0 ↔ s = t
  | [], [] => by simp [cmpL]
  | [], _ :: _ => by simp [cmpL]
  | _ :: _, [] => by simp [cmpL]
  | a :: s, b :: t => by
    unfold cmpL
    split
    · rename_i h; rw [cmpL_zero, cmp3_zero.1 h]; simp
    · rename_i h
      constructor
      · intro g; exact absurd g h
      · intro g; exact absurd (cmp3_zero.2 (List.cons.inj g).1) h
theorem cmpL_swap : ∀ (s t : List Int), cmpL t s = - cmpL s t
  | [], [] => by simp [cmpL]
  | [], _ :: _ => by simp [cmpL]
  | _ :: _, [] => by simp [cmpL]
  | a :: s, b :: t => by
    unfold cmpL
    rw [cmp3_swap a b]
    by_cases h : cmp3 a b = 0
    · rw [if_pos (by omega), if_pos h, cmpL_swap]
    · rw [if_neg (by omega), if_neg h]
theorem cmpL_vals : ∀ (s t : List Int), cmpL s t = -1 ∨ cmpL s t = 0 ∨ cmpL s t = 1
  | [], [] => by simp [cmpL]
  | [], _ :: _ => by simp [cmpL]
  | _ :: _, [] => by simp [cmpL]
  | a :: s, b :: t => by
    unfold cmpL
    split
    · exact cmpL_vals s t
    · exact cmp3_vals a b
/-- Less or equal. -/
def leL (s t : List Int) : Prop := cmpL s t ≤ 0
theorem leL_trans : ∀ {s t u : List Int}, leL s t → leL t u → leL s u
  | [], _, [] => fun _ _ => by simp [leL, cmpL]
  | [], _, _ :: _ => fun _ _ => by simp [leL, cmpL]
  | _ :: _, [], _ => fun h _ => by simp [leL, cmpL] at h
  | _ :: _, _ :: _, [] => fun _ h => by simp [leL, cmpL] at h
  | a :: s, b :: t, c :: u => fun h g => by
    unfold leL cmpL at *
    by_cases h1 : cmp3 a b = 0
    · rw [if_pos h1] at h
      obtain rfl := cmp3_zero.1 h1
      by_cases h2 : cmp3 a c = 0
      · rw [if_pos h2] at g ⊢; exact leL_trans h g
      · rw [if_neg h2] at g ⊢; exact g
    · rw [if_neg h1] at h
      by_cases h2 : cmp3 b c = 0
      · obtain rfl := cmp3_zero.1 h2
        rw [if_neg h1]; exact h
      · rw [if_neg h2] at g
        have : cmp3 a c = -1 := by
          unfold cmp3 at *
          split at h <;> split at g <;> (try split at h) <;> (try split at g) <;> (try split) <;> first | rfl | omega
        rw [if_neg (by omega)]; omega
theorem leL_total (s t : List Int) : leL s t ∨ leL t s := by
  unfold leL
  rw [cmpL_swap s t]; omega
theorem leL_antisymm {s t : List Int} (h : leL s t) (g : leL t s) : s = t := by
  unfold leL at *
  rw [cmpL_swap s t] at g
  exact cmpL_zero.1 (by omega)
theorem cmpL_append : ∀ {s t : List Int} (s' t' : List Int), s.length = t.length → cmpL (s ++ s') (t ++ t') = if cmpL s t = 0 then cmpL s' t' else cmpL s t
  | [], [], _, _, _ => by simp [cmpL]
  | [], _ :: _, _, _, h => by simp at h
  | _ :: _, [], _, _, h => by simp at h
  | a :: s, b :: t, s', t', h => by
    simp only [List.cons_append]
    rw [cmpL, cmpL]
    by_cases g : cmp3 a b = 0
    · rw [if_pos g, if_pos g]; exact cmpL_append s' t' (by simpa using h)
    · rw [if_neg g, if_neg g, if_neg g]
theorem cmpL_drop {s t : List Int} {k : Nat} (h1 : k < s.length) (h2 : k < t.length) :
    cmpL (s.drop k) (t.drop k) = if cmp3 (nth s k) (nth t k) = 0 then cmpL (s.drop (k + 1)) (t.drop (k + 1)) else cmp3 (nth s k) (nth t k) := by
  rw [List.drop_eq_getElem_cons h1, List.drop_eq_getElem_cons h2, cmpL]
  have a : nth s k = s[k] := by unfold nth; simp [List.getD_eq_getElem?_getD, List.getElem?_eq_getElem h1]
  have b : nth t k = t[k] := by unfold nth; simp [List.getD_eq_getElem?_getD, List.getElem?_eq_getElem h2]
  rw [a, b]
theorem cmpL_done {s t : List Int} {k : Nat} (h1 : k < s.length) (h2 : t.length ≤ k) : cmpL (s.drop k) (t.drop k) = 1 := by
  rw [List.drop_eq_getElem_cons h1, List.drop_eq_nil_of_le h2, cmpL]
theorem cmpL_end {s t : List Int} (h2 : s.length ≤ t.length) : cmpL (s.drop s.length) (t.drop s.length) = if s.length < t.length then -1 else 0 := by
  rw [List.drop_length]
  by_cases h : s.length < t.length
  · rw [if_pos h, List.drop_eq_getElem_cons h, cmpL]
  · rw [if_neg h, List.drop_eq_nil_of_le (by omega), cmpL]
end Go.Proofs.YtmjoijfafachhaaGreatDoor


namespace Go.Proofs.YtmjoijfafachhaaGreatDoor
open Go Go.RowKit
/-- A crossing appended, if it is not there. -/
def addN (o : List Nat) (c : Nat) : List Nat := if c ∈ o then o else o ++ [c]
/-- The crossings met from crossing c by its first k half-edges appended. -/
def ordRow (M : List Int) (c : Nat) : Nat → List Nat → List Nat
  | 0, o => o
  | k + 1, o => addN (ordRow M c k o) (mt M (4 * c + k) / 4)
/-- The order after i rounds from crossing r. -/
def ordTo (M : List Int) (r : Nat) : Nat → List Nat
  | 0 => [r]
  | i + 1 => if i < (ordTo M r i).length then ordRow M ((ordTo M r i).getD i 0) 4 (ordTo M r i) else ordTo M r i
/-- The numbering from crossing r among n crossings. -/
def ordL (M : List Int) (r n : Nat) : List Nat := ordTo M r n
theorem mem_addN {o : List Nat} {c d : Nat} : d ∈ addN o c ↔ d ∈ o ∨ d = c := by
  unfold addN; split
  · rename_i h
    constructor
    · exact .inl
    · rintro (h1 | rfl) <;> assumption
  · simp
theorem addN_pre (o : List Nat) (c : Nat) : o <+: addN o c := by
  unfold addN; split
  · exact List.prefix_refl _
  · exact List.prefix_append _ _
theorem addN_nodup {o : List Nat} {c : Nat} (h : o.Nodup) : (addN o c).Nodup := by
  unfold addN; split
  · exact h
  · rename_i hc
    rw [List.nodup_append]
    exact ⟨h, by simp, by rintro a ha b hb rfl; simp only [List.mem_singleton] at hb; subst hb; exact hc ha⟩
theorem ordRow_pre (M : List Int) (c : Nat) (o : List Nat) : ∀ k, o <+: ordRow M c k o
  | 0 => List.prefix_refl _
  | k + 1 => (ordRow_pre M c o k).trans (addN_pre _ _)
theorem ordRow_step (M : List Int) (c : Nat) (o : List Nat) {k l : Nat} (h : k ≤ l) : ordRow M c k o <+: ordRow M c l o := by
  induction l with
  | zero => obtain rfl : k = 0 := by omega
            exact List.prefix_refl _
  | succ l ih =>
    rcases Nat.lt_or_ge l k with g | g
    · obtain rfl : k = l + 1 := by omega
      exact List.prefix_refl _
    · exact (ih g).trans (addN_pre _ _)
theorem ordRow_mem (M : List Int) (c : Nat) (o : List Nat) {k s : Nat} (h : s < k) : mt M (4 * c + s) / 4 ∈ ordRow M c k o :=
  (ordRow_step M c o (show s + 1 ≤ k from h)).subset (mem_addN.2 (.inr rfl))
theorem ordRow_nodup (M : List Int) (c : Nat) {o : List Nat} (h : o.Nodup) : ∀ k, (ordRow M c k o).Nodup
  | 0 => h
  | k + 1 => addN_nodup (ordRow_nodup M c h k)
theorem ordRow_cases {M : List Int} {c : Nat} {o : List Nat} {d : Nat} : ∀ {k}, d ∈ ordRow M c k o → d ∈ o ∨ ∃ s, s < k ∧ d = mt M (4 * c + s) / 4
  | 0, h => .inl h
  | k + 1, h => by
    rcases mem_addN.1 h with h | rfl
    · rcases ordRow_cases h with h | ⟨s, hs, e⟩
      · exact .inl h
      · exact .inr ⟨s, by omega, e⟩
    · exact .inr ⟨k, by omega, rfl⟩
theorem ordTo_next (M : List Int) (r i : Nat) : ordTo M r i <+: ordTo M r (i + 1) := by
  rw [ordTo]; split
  · exact ordRow_pre _ _ _ _
  · exact List.prefix_refl _
theorem ordTo_pre (M : List Int) (r : Nat) {i j : Nat} (h : i ≤ j) : ordTo M r i <+: ordTo M r j := by
  induction j with
  | zero => obtain rfl : i = 0 := by omega
            exact List.prefix_refl _
  | succ j ih =>
    rcases Nat.lt_or_ge j i with g | g
    · obtain rfl : i = j + 1 := by omega
      exact List.prefix_refl _
    · exact (ih g).trans (ordTo_next M r j)
theorem ordTo_nodup (M : List Int) (r : Nat) : ∀ i, (ordTo M r i).Nodup
  | 0 => by simp [ordTo]
  | i + 1 => by
    rw [ordTo]; split
    · exact ordRow_nodup _ _ (ordTo_nodup M r i) _
    · exact ordTo_nodup M r i
theorem ordTo_lt {M : List Int} {r n : Nat} (hm : ∀ x, x < 4 * n → mt M x < 4 * n) (hr : r < n) : ∀ i, ∀ c, c ∈ ordTo M r i → c < n
  | 0, c, h => by simp [ordTo] at h; omega
  | i + 1, c, h => by
    rw [ordTo] at h
    split at h
    · rename_i hi
      rcases ordRow_cases h with h | ⟨s, hs, rfl⟩
      · exact ordTo_lt hm hr i c h
      · have h1 := ordTo_lt hm hr i ((ordTo M r i).getD i 0) (by rw [List.getD_eq_getElem?_getD, List.getElem?_eq_getElem hi]; exact List.getElem_mem hi)
        have := hm (4 * (ordTo M r i).getD i 0 + s) (by omega)
        omega
    · exact ordTo_lt hm hr i c h
theorem ordTo_pos (M : List Int) (r i : Nat) : 0 < (ordTo M r i).length := by
  have := (ordTo_pre M r (Nat.zero_le i)).length_le
  simp [ordTo] at this
  omega
theorem nodup_few : ∀ (n : Nat) (l : List Nat), l.Nodup → (∀ c, c ∈ l → c < n) → l.length ≤ n
  | n, l, h, g => by
    have : l ⊆ List.range n := fun c hc => List.mem_range.2 (g c hc)
    have h2 := List.Nodup.length_le_of_subset h this
    simpa using h2
theorem ordTo_len {M : List Int} {r n : Nat} (hm : ∀ x, x < 4 * n → mt M x < 4 * n) (hr : r < n) (i : Nat) : (ordTo M r i).length ≤ n :=
  nodup_few n _ (ordTo_nodup M r i) (ordTo_lt hm hr i)
theorem pre_getD {o o' : List Nat} (h : o <+: o') {j : Nat} (hj : j < o.length) : o'.getD j 0 = o.getD j 0 := by
  obtain ⟨t, rfl⟩ := h
  rw [List.getD_eq_getElem?_getD, List.getD_eq_getElem?_getD, List.getElem?_append_left hj]
/-- All neighbours of the first i crossings of an order lie in it. -/
def Cl (M : List Int) (o : List Nat) (i : Nat) : Prop := i ≤ o.length ∧ ∀ j, j < i → ∀ s, s < 4 → mt M (4 * o.getD j 0 + s) / 4 ∈ o
theorem Cl.zero (M : List Int) (o : List Nat) : Cl M o 0 := ⟨Nat.zero_le _, fun j hj => by omega⟩
theorem Cl.next {M : List Int} {o : List Nat} {i : Nat} (h : Cl M o i) (hi : i < o.length) : Cl M (ordRow M (o.getD i 0) 4 o) (i + 1) :=
  ⟨Nat.lt_of_lt_of_le hi (ordRow_pre _ _ _ _).length_le, fun j hj s hs => by
    rw [pre_getD (ordRow_pre M _ o 4) (by omega)]
    rcases Nat.lt_or_ge j i with g | g
    · exact (ordRow_pre M _ o 4).subset (h.2 j g s hs)
    · obtain rfl : j = i := by omega
      exact ordRow_mem _ _ _ hs⟩
theorem ordTo_fix {M : List Int} {r i : Nat} (h : (ordTo M r i).length ≤ i) : ∀ d, ordTo M r (i + d) = ordTo M r i
  | 0 => rfl
  | d + 1 => by
    rw [← Nat.add_assoc, ordTo, ordTo_fix h d, if_neg (by omega)]
theorem ordTo_end {M : List Int} {r i n : Nat} (h : (ordTo M r i).length ≤ i) (hn : i ≤ n) : ordTo M r i = ordL M r n := by
  obtain ⟨d, rfl⟩ := Nat.exists_eq_add_of_le hn
  exact (ordTo_fix h d).symm
/-- The first k + 1 numbers of a crossing's row in the code. -/
def rowC (S M : List Int) (o : List Nat) (c k : Nat) : List Int := nth S c :: (List.range k).map fun s => (((4 * o.idxOf (mt M (4 * c + s) / 4) + mt M (4 * c + s) % 4 : Nat)) : Int)
/-- The first i rows of the code of an order. -/
def codeTo (S M : List Int) (o : List Nat) (i : Nat) : List Int := (List.range i).flatMap fun j => rowC S M o (o.getD j 0) 4
/-- The code from crossing r. -/
def codeL (S M : List Int) (r n : Nat) : List Int := codeTo S M (ordL M r n) (ordL M r n).length
theorem idx_pre {o o' : List Nat} (h : o <+: o') {c : Nat} (hc : c ∈ o) : o'.idxOf c = o.idxOf c := by
  obtain ⟨t, rfl⟩ := h
  rw [List.idxOf_append, if_pos hc]
theorem rowC_pre {S M : List Int} {o o' : List Nat} {c k : Nat} (h : o <+: o') (hc : ∀ s, s < k → mt M (4 * c + s) / 4 ∈ o) : rowC S M o' c k = rowC S M o c k := by
  unfold rowC
  congr 1
  apply List.map_congr_left
  intro s hs
  rw [idx_pre h (hc s (List.mem_range.1 hs))]
theorem rowC_len (S M : List Int) (o : List Nat) (c k : Nat) : (rowC S M o c k).length = k + 1 := by simp [rowC]
theorem rowC_snoc (S M : List Int) (o : List Nat) (c k : Nat) : rowC S M o c (k + 1) = rowC S M o c k ++ [(((4 * o.idxOf (mt M (4 * c + k) / 4) + mt M (4 * c + k) % 4 : Nat)) : Int)] := by
  unfold rowC; rw [List.range_succ, List.map_append]; rfl
theorem codeTo_succ (S M : List Int) (o : List Nat) (i : Nat) : codeTo S M o (i + 1) = codeTo S M o i ++ rowC S M o (o.getD i 0) 4 := by
  unfold codeTo; rw [List.range_succ, List.flatMap_append]; simp
theorem codeTo_len (S M : List Int) (o : List Nat) : ∀ i, (codeTo S M o i).length = 5 * i
  | 0 => rfl
  | i + 1 => by rw [codeTo_succ, List.length_append, codeTo_len S M o i, rowC_len]; omega
theorem codeTo_pre {S M : List Int} {o o' : List Nat} (h : o <+: o') : ∀ {i}, Cl M o i → codeTo S M o' i = codeTo S M o i
  | 0, _ => rfl
  | i + 1, g => by
    rw [codeTo_succ, codeTo_succ, codeTo_pre h ⟨by have := g.1; omega, fun j hj => g.2 j (by omega)⟩, pre_getD h (by have := g.1; omega), rowC_pre h (g.2 i (by omega))]
theorem codeTo_more (S M : List Int) (o : List Nat) {i j : Nat} (h : i ≤ j) : codeTo S M o i <+: codeTo S M o j := by
  obtain ⟨d, rfl⟩ := Nat.exists_eq_add_of_le h
  unfold codeTo
  rw [List.range_add, List.flatMap_append]
  exact List.prefix_append _ _
theorem codeL_len (S M : List Int) (r n : Nat) : (codeL S M r n).length = 5 * (ordL M r n).length := codeTo_len _ _ _ _
theorem ordTo_cl (M : List Int) (r : Nat) : ∀ i, i ≤ (ordTo M r i).length → Cl M (ordTo M r i) i
  | 0, _ => Cl.zero _ _
  | i + 1, h => by
    have hi : i < (ordTo M r i).length := by
      rcases Nat.lt_or_ge i (ordTo M r i).length with g | g
      · exact g
      · rw [ordTo_fix g 1] at h; omega
    rw [ordTo, if_pos hi]
    exact (ordTo_cl M r i (by omega)).next hi
/-- The code of the first i rounds is the beginning of the code. -/
theorem codeTo_codeL {S M : List Int} {r n i : Nat} (hi : i ≤ (ordTo M r i).length) (hn : i ≤ n) : codeTo S M (ordTo M r i) i <+: codeL S M r n := by
  have hp : ordTo M r i <+: ordL M r n := ordTo_pre M r hn
  rw [← codeTo_pre hp (ordTo_cl M r i hi)]
  exact codeTo_more _ _ _ (Nat.le_trans hi hp.length_le)
/-- A beginning that compares unequal decides. -/
theorem cmpL_pre {s s' t : List Int} (h : s <+: s') (hl : s.length ≤ t.length) (hc : cmpL s (t.take s.length) ≠ 0) : cmpL s' t = cmpL s (t.take s.length) := by
  obtain ⟨u, rfl⟩ := h
  have := cmpL_append u (t.drop s.length) (s := s) (t := t.take s.length) (by simp; omega)
  rw [List.take_append_drop, if_neg hc] at this
  exact this
end Go.Proofs.YtmjoijfafachhaaGreatDoor


namespace Go.Proofs.YtmjoijfafachhaaGreatDoor
open Go Go.RowKit
/-- One more root tried. -/
def pieStep (S M : List Int) (n : Nat) (p : Dgm) (r : Nat) : Dgm :=
  if p.1 = [] then (codeL S M r n, nats (ordL M r n), 1)
  else if cmpL (codeL S M r n) p.1 < 0 then (codeL S M r n, nats (ordL M r n), 1)
  else if cmpL (codeL S M r n) p.1 = 0 then (p.1, p.2.1, p.2.2 + 1)
  else p
/-- The piece of a group. -/
def pieOf (S M : List Int) (n : Nat) (G : List Nat) : Dgm := G.foldl (pieStep S M n) ([], [], 0)
theorem codeL_ne (S M : List Int) (r n : Nat) : codeL S M r n ≠ [] := fun e => by
  have h := codeL_len S M r n
  rw [e] at h
  have := ordTo_pos M r n
  unfold ordL at h
  simp at h
  omega
/-- What a piece is after some roots: the least of their codes. -/
structure PieIs (S M : List Int) (n : Nat) (l : List Nat) (p : Dgm) : Prop where
  at_ : ∃ r, r ∈ l ∧ p.1 = codeL S M r n ∧ p.2.1 = nats (ordL M r n)
  le : ∀ r, r ∈ l → leL p.1 (codeL S M r n)
theorem PieIs.one (S M : List Int) (n r : Nat) : PieIs S M n [r] (pieStep S M n ([], [], 0) r) :=
  ⟨⟨r, by simp, by simp [pieStep], by simp [pieStep]⟩, fun s hs => by
    obtain rfl : s = r := by simpa using hs
    unfold leL
    rw [show (pieStep S M n ([], [], 0) s).1 = codeL S M s n by simp [pieStep], cmpL_zero.2 rfl]; omega⟩
theorem PieIs.next {S M : List Int} {n : Nat} {l : List Nat} {p : Dgm} (h : PieIs S M n l p) (r : Nat) : PieIs S M n (l ++ [r]) (pieStep S M n p r) := by
  obtain ⟨r0, hr0, e1, e2⟩ := h.at_
  have hne : p.1 ≠ [] := by rw [e1]; exact codeL_ne _ _ _ _
  unfold pieStep
  rw [if_neg hne]
  by_cases h1 : cmpL (codeL S M r n) p.1 < 0
  · rw [if_pos h1]
    refine ⟨⟨r, by simp, rfl, rfl⟩, fun s hs => ?_⟩
    rcases List.mem_append.1 hs with g | g
    · exact leL_trans (show leL (codeL S M r n) p.1 by unfold leL; omega) (h.le s g)
    · obtain rfl : s = r := by simpa using g
      unfold leL
      rw [cmpL_zero.2 rfl]; omega
  · rw [if_neg h1]
    have hle : leL p.1 (codeL S M r n) := by unfold leL; rw [cmpL_swap (codeL S M r n) p.1]; omega
    have all : ∀ s, s ∈ l ++ [r] → leL p.1 (codeL S M s n) := fun s hs => by
      rcases List.mem_append.1 hs with g | g
      · exact h.le s g
      · obtain rfl : s = r := by simpa using g
        exact hle
    by_cases h2 : cmpL (codeL S M r n) p.1 = 0
    · rw [if_pos h2]; exact ⟨⟨r0, List.mem_append_left _ hr0, e1, e2⟩, all⟩
    · rw [if_neg h2]; exact ⟨⟨r0, List.mem_append_left _ hr0, e1, e2⟩, all⟩
end Go.Proofs.YtmjoijfafachhaaGreatDoor


namespace Go.Proofs.YtmjoijfafachhaaGreatDoor
open Go Go.RowKit
theorem adj_mt {M : List Int} {c s : Nat} (hs : s < 4) : Adj M c (mt M (4 * c + s) / 4) := ⟨s, hs, rfl⟩
theorem ordTo_conn (M : List Int) (r : Nat) : ∀ i c, c ∈ ordTo M r i → Conn M r c
  | 0, c, h => by
    obtain rfl : c = r := by simpa [ordTo] using h
    exact Conn.refl _ _
  | i + 1, c, h => by
    rw [ordTo] at h
    split at h
    · rename_i hi
      rcases ordRow_cases h with h | ⟨s, hs, rfl⟩
      · exact ordTo_conn M r i c h
      · have h1 := ordTo_conn M r i ((ordTo M r i).getD i 0) (by rw [List.getD_eq_getElem?_getD, List.getElem?_eq_getElem hi]; exact List.getElem_mem hi)
        exact fun Q h0 hq => hq _ _ (h1 Q h0 hq) (adj_mt hs)
    · exact ordTo_conn M r i c h
theorem ordL_cl {M : List Int} {r n : Nat} (hm : ∀ x, x < 4 * n → mt M x < 4 * n) (hr : r < n) : Cl M (ordL M r n) (ordL M r n).length := by
  have hl := ordTo_len hm hr n
  have hp : ordTo M r (ordTo M r n).length <+: ordTo M r n := ordTo_pre M r hl
  have hf : ordTo M r (ordTo M r n).length = ordTo M r n := by
    obtain ⟨d, hd⟩ := Nat.exists_eq_add_of_le hl
    have := ordTo_fix (M := M) (r := r) (i := (ordTo M r n).length) hp.length_le d
    rw [← hd] at this
    exact this.symm
  have := ordTo_cl M r (ordTo M r n).length (by rw [hf]; exact Nat.le_refl _)
  rw [hf] at this
  exact this
theorem mem_ordL {M : List Int} {r n c : Nat} (hm : ∀ x, x < 4 * n → mt M x < 4 * n) (hr : r < n) : c ∈ ordL M r n ↔ Conn M r c := by
  constructor
  · exact ordTo_conn M r n c
  · intro h
    refine h (fun c => c ∈ ordL M r n) ((ordTo_pre M r (Nat.zero_le n)).subset (by simp [ordTo])) ?_
    rintro x y hx ⟨s, hs, rfl⟩
    obtain ⟨j, hj, e⟩ := List.mem_iff_getElem.1 hx
    have := (ordL_cl hm hr).2 j hj s hs
    rw [List.getD_eq_getElem?_getD, List.getElem?_eq_getElem hj] at this
    simp only [Option.getD_some] at this
    rw [e] at this
    exact this
theorem ordL_perm {M : List Int} {n : Nat} (hmo : MateOk M n) (hm : ∀ x, x < 4 * n → mt M x < 4 * n) {G : List Nat} (hG : G ∈ grpOf M n) {r : Nat} (hr : r ∈ G) : (ordL M r n).Perm G := by
  have hw := (grp_whole hmo hG).1
  have hrn := hw.lt r hr
  have hg := grp_of hmo hrn hG hr
  refine (List.perm_ext_iff_of_nodup (ordTo_nodup M r n) hw.nd).2 fun c => ?_
  show c ∈ ordL M r n ↔ c ∈ G
  rw [mem_ordL hm hrn]
  constructor
  · intro h
    rw [hg, mem_clsN]
    exact ⟨ordTo_lt hm hrn n c ((mem_ordL hm hrn).2 h), h⟩
  · intro h
    rw [hg, mem_clsN] at h
    exact h.2
theorem ordL_len {M : List Int} {n : Nat} (hmo : MateOk M n) (hm : ∀ x, x < 4 * n → mt M x < 4 * n) {G : List Nat} (hG : G ∈ grpOf M n) {r : Nat} (hr : r ∈ G) : (ordL M r n).length = G.length := (ordL_perm hmo hm hG hr).length_eq
end Go.Proofs.YtmjoijfafachhaaGreatDoor


namespace Go.Proofs.YtmjoijfafachhaaGreatDoor
open Go Go.RowKit
theorem up_at (e : Nat → Nat) {c s : Nat} (h : s < 4) : upE e (4 * c + s) = 4 * e c + s := by
  unfold upE
  rw [show (4 * c + s) / 4 = c by omega, show (4 * c + s) % 4 = s by omega]
theorem idx_map {e : Nat → Nat} {n : Nat} (hi : ∀ c d, c < n → d < n → e c = e d → c = d) {d : Nat} (hd : d < n) : ∀ (o : List Nat), (∀ c, c ∈ o → c < n) → (o.map e).idxOf (e d) = o.idxOf d
  | [], _ => rfl
  | a :: o, h => by
    rw [List.map_cons, List.idxOf_cons, List.idxOf_cons, idx_map hi hd o fun c hc => h c (List.mem_cons_of_mem _ hc)]
    by_cases g : a = d
    · subst g; simp
    · have : e a ≠ e d := fun k => g (hi a d (h a List.mem_cons_self) hd k)
      have h1 : (e a == e d) = false := by simpa using this
      have h2 : (a == d) = false := by simpa using g
      rw [h1, h2]
theorem mem_mapE {e : Nat → Nat} {n : Nat} (hi : ∀ c d, c < n → d < n → e c = e d → c = d) {d : Nat} (hd : d < n) {o : List Nat} (h : ∀ c, c ∈ o → c < n) : e d ∈ o.map e ↔ d ∈ o := by
  rw [List.mem_map]
  constructor
  · rintro ⟨a, ha, e1⟩
    rw [← hi a d (h a ha) hd e1]; exact ha
  · exact fun h => ⟨d, h, rfl⟩
theorem getD_map (e : Nat → Nat) {o : List Nat} {i : Nat} (h : i < o.length) : (o.map e).getD i 0 = e (o.getD i 0) := by
  rw [List.getD_eq_getElem?_getD, List.getD_eq_getElem?_getD, List.getElem?_map, List.getElem?_eq_getElem h]; rfl
theorem getD_mem {o : List Nat} {i : Nat} (h : i < o.length) : o.getD i 0 ∈ o := by
  rw [List.getD_eq_getElem?_getD, List.getElem?_eq_getElem h]; exact List.getElem_mem h
section
variable {S M S' M' : List Int} {n n' : Nat} {e : Nat → Nat} (E : Emb M n M' n' e) (hm : ∀ x, x < 4 * n → mt M x < 4 * n)
include E
theorem emb_mt {c s : Nat} (hc : c < n) (hs : s < 4) : mt M' (4 * e c + s) / 4 = e (mt M (4 * c + s) / 4) ∧ mt M' (4 * e c + s) % 4 = mt M (4 * c + s) % 4 := by
  have := E.mate (4 * c + s) (by omega)
  rw [up_at e hs] at this
  rw [this]
  exact ⟨upE_div _ _, upE_mod _ _⟩
include hm
theorem emb_row {c : Nat} (hc : c < n) {o : List Nat} (ho : ∀ d, d ∈ o → d < n) : ∀ k, k ≤ 4 → ordRow M' (e c) k (o.map e) = (ordRow M c k o).map e
  | 0, _ => rfl
  | k + 1, hk => by
    have hl : ∀ d, d ∈ ordRow M c k o → d < n := fun d hd => by
      rcases ordRow_cases hd with h | ⟨s, hs, rfl⟩
      · exact ho d h
      · have := hm (4 * c + s) (by omega); omega
    have hd : mt M (4 * c + k) / 4 < n := by have := hm (4 * c + k) (by omega); omega
    rw [ordRow, ordRow, emb_row hc ho k (by omega), (emb_mt E hc (by omega)).1]
    unfold addN
    by_cases g : mt M (4 * c + k) / 4 ∈ ordRow M c k o
    · rw [if_pos g, if_pos ((mem_mapE E.inj hd hl).2 g)]
    · rw [if_neg g, if_neg fun h => g ((mem_mapE E.inj hd hl).1 h), List.map_append]; rfl
theorem emb_to {r : Nat} (hr : r < n) : ∀ i, ordTo M' (e r) i = (ordTo M r i).map e
  | 0 => rfl
  | i + 1 => by
    rw [ordTo, ordTo, emb_to hr i, List.length_map]
    by_cases g : i < (ordTo M r i).length
    · have ho := ordTo_lt hm hr i
      rw [if_pos g, if_pos g, getD_map e g, emb_row E hm (ho _ (getD_mem g)) ho 4 (by omega)]
    · rw [if_neg g, if_neg g]
theorem emb_ord {r : Nat} (hr : r < n) (hn : n ≤ n') : ordL M' (e r) n' = (ordL M r n).map e := by
  unfold ordL
  rw [emb_to E hm hr]
  obtain ⟨d, rfl⟩ := Nat.exists_eq_add_of_le hn
  rw [ordTo_fix (ordTo_len hm hr n) d]
theorem emb_code (hS : ∀ c, c < n → nth S' (e c) = nth S c) {r : Nat} (hr : r < n) (hn : n ≤ n') : codeL S' M' (e r) n' = codeL S M r n := by
  have ho : ∀ d, d ∈ ordL M r n → d < n := ordTo_lt hm hr n
  unfold codeL
  rw [emb_ord E hm hr hn, List.length_map]
  unfold codeTo
  rw [List.flatMap_eq_foldl, List.flatMap_eq_foldl]
  have key : ∀ i, i ≤ (ordL M r n).length → (List.range i).flatMap (fun j => rowC S' M' ((ordL M r n).map e) (((ordL M r n).map e).getD j 0) 4) = (List.range i).flatMap (fun j => rowC S M (ordL M r n) ((ordL M r n).getD j 0) 4) := fun i hi => by
    rw [List.flatMap_def, List.flatMap_def]
    congr 1
    refine List.map_congr_left fun j hj => ?_
    have hj := List.mem_range.1 hj
    have hjl : j < (ordL M r n).length := by omega
    have hc : (ordL M r n).getD j 0 < n := ho _ (getD_mem hjl)
    rw [getD_map e hjl]
    unfold rowC
    rw [hS _ hc]
    congr 1
    refine List.map_congr_left fun s hs => ?_
    have hs := List.mem_range.1 hs
    have hd : mt M (4 * (ordL M r n).getD j 0 + s) / 4 < n := by have := hm (4 * (ordL M r n).getD j 0 + s) (by omega); omega
    rw [(emb_mt E hc hs).1, (emb_mt E hc hs).2, idx_map E.inj hd _ ho]
  have := key (ordL M r n).length (Nat.le_refl _)
  rw [List.flatMap_eq_foldl, List.flatMap_eq_foldl] at this
  exact this
end
theorem pie_is (S M : List Int) (n : Nat) {G : List Nat} (h : 0 < G.length) : PieIs S M n G (pieOf S M n G) := by
  have key : ∀ k, k < G.length → PieIs S M n (G.take (k + 1)) ((G.take (k + 1)).foldl (pieStep S M n) ([], [], 0)) := fun k => by
    induction k with
    | zero =>
      intro hk
      rw [List.take_add_one, List.getElem?_eq_getElem hk]
      exact PieIs.one S M n _
    | succ k ih =>
      intro hk
      have := (ih (by omega)).next (G[k + 1])
      rw [List.take_add_one, List.getElem?_eq_getElem hk, Option.toList_some, List.foldl_append]
      exact this
  have := key (G.length - 1) (by omega)
  rw [show G.length - 1 + 1 = G.length by omega, List.take_of_length_le (Nat.le_refl _)] at this
  exact this
/-- How many crossings yield the code. -/
def rootsN (S M : List Int) (n : Nat) (G : List Nat) (c : List Int) : Nat := G.countP fun r => decide (codeL S M r n = c)
theorem pie_len {S M : List Int} {n : Nat} {l : List Nat} {p : Dgm} (h : PieIs S M n l p) : p.1.length = 5 * p.2.1.length := by
  obtain ⟨r, _, e1, e2⟩ := h.at_
  rw [e1, e2, nats_length, codeL_len]
theorem pie_roots (S M : List Int) (n : Nat) {G : List Nat} (h : 0 < G.length) : (pieOf S M n G).2.2 = (rootsN S M n G (pieOf S M n G).1 : Int) := by
  have key : ∀ k, k < G.length → ((G.take (k + 1)).foldl (pieStep S M n) ([], [], 0)).2.2 = (rootsN S M n (G.take (k + 1)) ((G.take (k + 1)).foldl (pieStep S M n) ([], [], 0)).1 : Int) := fun k => by
    induction k with
    | zero =>
      intro hk
      rw [List.take_add_one, List.getElem?_eq_getElem hk]
      simp [pieStep, rootsN]
    | succ k ih =>
      intro hk
      have i1 := ih (by omega)
      have h0 := pie_is S M n (G := G.take (k + 1)) (by rw [List.length_take]; omega)
      rw [List.take_add_one, List.getElem?_eq_getElem hk, Option.toList_some, List.foldl_append]
      unfold pieOf at h0
      generalize (G.take (k + 1)).foldl (pieStep S M n) ([], [], 0) = p at *
      obtain ⟨r0, hr0, e1, e2⟩ := h0.at_
      have hne : p.1 ≠ [] := by rw [e1]; exact codeL_ne _ _ _ _
      have hcount : ∀ c, rootsN S M n (G.take (k + 1) ++ [G[k + 1]]) c = rootsN S M n (G.take (k + 1)) c + (if codeL S M G[k + 1] n = c then 1 else 0) := fun c => by
        unfold rootsN
        rw [List.countP_append, List.countP_singleton]
        simp
      show (pieStep S M n p G[k + 1]).2.2 = _
      rw [List.foldl_cons, List.foldl_nil, hcount]
      unfold pieStep
      rw [if_neg hne]
      by_cases h1 : cmpL (codeL S M G[k + 1] n) p.1 < 0
      · rw [if_pos h1]
        show (1 : Int) = _
        have hz : rootsN S M n (G.take (k + 1)) (codeL S M G[k + 1] n) = 0 := by
          unfold rootsN
          rw [List.countP_eq_zero]
          intro r hr
          have := h0.le r hr
          intro hc
          have hc := of_decide_eq_true hc
          rw [hc] at this
          unfold leL at this
          rw [cmpL_swap (codeL S M G[k + 1] n) p.1] at this
          omega
        show (1 : Int) = ((rootsN S M n (G.take (k + 1)) (codeL S M G[k + 1] n) + if codeL S M G[k + 1] n = codeL S M G[k + 1] n then 1 else 0 : Nat) : Int)
        rw [hz, if_pos rfl]; rfl
      · rw [if_neg h1]
        by_cases h2 : cmpL (codeL S M G[k + 1] n) p.1 = 0
        · rw [if_pos h2]
          show p.2.2 + 1 = _
          rw [i1, if_pos (cmpL_zero.1 h2)]; rfl
        · rw [if_neg h2]
          show p.2.2 = _
          rw [i1, if_neg fun h => h2 (cmpL_zero.2 h)]; rfl
  have := key (G.length - 1) (by omega)
  rw [show G.length - 1 + 1 = G.length by omega, List.take_of_length_le (Nat.le_refl _)] at this
  exact this
/-- The least code of some crossings and their number. -/
theorem pie_least {S M S' M' : List Int} {n n' : Nat} {G G' : List Nat} (h : 0 < G.length) (h' : 0 < G'.length) (f : Nat → Nat) (hp : G'.Perm (G.map f)) (hc : ∀ r, r ∈ G → codeL S' M' (f r) n' = codeL S M r n) :
    (pieOf S' M' n' G').1 = (pieOf S M n G).1 ∧ (pieOf S' M' n' G').2.2 = (pieOf S M n G).2.2 := by
  have i := pie_is S M n h
  have j := pie_is S' M' n' h'
  have e : (pieOf S' M' n' G').1 = (pieOf S M n G).1 := by
    obtain ⟨r, hr, e1, _⟩ := i.at_
    obtain ⟨r', hr', e2, _⟩ := j.at_
    refine leL_antisymm ?_ ?_
    · have := j.le (f r) (hp.mem_iff.2 (List.mem_map_of_mem hr))
      rw [hc r hr, ← e1] at this
      exact this
    · obtain ⟨r0, h0, e0⟩ := List.mem_map.1 (hp.mem_iff.1 hr')
      have := i.le r0 h0
      rw [← hc r0 h0, e0, ← e2] at this
      exact this
  refine ⟨e, ?_⟩
  rw [pie_roots _ _ _ h, pie_roots _ _ _ h', e]
  congr 1
  unfold rootsN
  rw [hp.countP_eq, List.countP_map]
  refine List.countP_congr fun r hr => ?_
  show decide (codeL S' M' (f r) n' = _) = true ↔ _
  rw [hc r hr]
theorem leads_eq {M : List Int} {n : Nat} (hm : MateOk M n) {c d : Nat} (hc : c ∈ leadsN M n) (hd : d ∈ leadsN M n) (h : Conn M c d) : c = d := by
  have h1 := mem_leadsN.1 hc
  have h2 := mem_leadsN.1 hd
  rcases Nat.lt_trichotomy c d with g | g | g
  · exact absurd h (h2.2 c g)
  · exact g
  · exact absurd (hm.conn_symm h1.1 h) (h1.2 d g)
theorem grp_nodup {M : List Int} {n : Nat} (hm : MateOk M n) : (grpOf M n).Nodup := by
  unfold grpOf
  have h0 : (leadsN M n).Nodup := List.nodup_range.sublist List.filter_sublist
  rw [List.nodup_iff_pairwise_ne, List.pairwise_map]
  refine List.Pairwise.imp_of_mem (fun {c d} hc hd hne e => hne ?_) h0
  have : d ∈ clsN M n c := by rw [e]; exact cls_self (mem_leadsN.1 hd).1
  exact leads_eq hm hc hd (mem_clsN.1 this).2
theorem leads_nodup (M : List Int) (n : Nat) : (leadsN M n).Nodup := List.nodup_range.sublist List.filter_sublist
section
variable {M1 M2 M' : List Int} {n1 n2 n' : Nat} {e1 e2 : Nat → Nat} (E1 : Emb M1 n1 M' n' e1) (E2 : Emb M2 n2 M' n' e2) (h1 : Mates M1 n1) (h2 : Mates M2 n2) (hm : MateOk M' n')
  (hcov : ∀ c, c < n' → (∃ d, d < n1 ∧ e1 d = c) ∨ ∃ d, d < n2 ∧ e2 d = c) (hdis : ∀ c d, c < n1 → d < n2 → e1 c ≠ e2 d)
theorem cls_emb {M1 M' : List Int} {n1 n' : Nat} {e1 : Nat → Nat} (E1 : Emb M1 n1 M' n' e1) (h1 : Mates M1 n1) {c : Nat} (hc : c < n1) : (clsN M' n' (e1 c)).Perm ((clsN M1 n1 c).map e1) := by
  have nd : (clsN M1 n1 c).Nodup := (whole_cls h1.ok c).nd
  refine (List.perm_ext_iff_of_nodup (List.nodup_range.sublist List.filter_sublist) ?_).2 fun z => ?_
  · rw [List.nodup_iff_pairwise_ne, List.pairwise_map]
    exact List.Pairwise.imp_of_mem (fun {a b} ha hb hne e => hne (E1.inj a b (mem_clsN.1 ha).1 (mem_clsN.1 hb).1 e)) nd
  · rw [List.mem_map]
    constructor
    · intro h
      obtain ⟨d, hd, e, hcd⟩ := E1.conn_back h1 hc (mem_clsN.1 h).2
      exact ⟨d, mem_clsN.2 ⟨hd, hcd⟩, e⟩
    · rintro ⟨d, hd, rfl⟩
      obtain ⟨hd, hcd⟩ := mem_clsN.1 hd
      exact mem_clsN.2 ⟨E1.lt d hd, E1.conn_to h1 hc hcd⟩
include E1 E2 h1 h2 hm hcov hdis
theorem grp_cover : (grpOf M' n').Perm ((leadsN M1 n1).map (fun c => clsN M' n' (e1 c)) ++ (leadsN M2 n2).map (fun c => clsN M' n' (e2 c))) := by
  have cl : ∀ {x y}, y < n' → clsN M' n' x = clsN M' n' y → Conn M' x y := fun {x y} hy e => by
    have : y ∈ clsN M' n' x := by rw [e]; exact cls_self hy
    exact (mem_clsN.1 this).2
  refine (List.perm_ext_iff_of_nodup (grp_nodup hm) ?_).2 fun G => ?_
  · rw [List.nodup_append]
    refine ⟨?_, ?_, ?_⟩
    · rw [List.nodup_iff_pairwise_ne, List.pairwise_map]
      refine List.Pairwise.imp_of_mem (fun {c d} hc hd hne e => hne ?_) (leads_nodup M1 n1)
      exact leads_eq h1.ok hc hd ((E1.conn_iff h1 (mem_leadsN.1 hc).1 (mem_leadsN.1 hd).1).1 (cl (E1.lt d (mem_leadsN.1 hd).1) e))
    · rw [List.nodup_iff_pairwise_ne, List.pairwise_map]
      refine List.Pairwise.imp_of_mem (fun {c d} hc hd hne e => hne ?_) (leads_nodup M2 n2)
      exact leads_eq h2.ok hc hd ((E2.conn_iff h2 (mem_leadsN.1 hc).1 (mem_leadsN.1 hd).1).1 (cl (E2.lt d (mem_leadsN.1 hd).1) e))
    · intro G hG G2 hG2 e
      subst e
      obtain ⟨c, hc, rfl⟩ := List.mem_map.1 hG
      obtain ⟨d, hd, e⟩ := List.mem_map.1 hG2
      obtain ⟨d', hd', e', _⟩ := E1.conn_back h1 (mem_leadsN.1 hc).1 (cl (E2.lt d (mem_leadsN.1 hd).1) e.symm)
      exact hdis d' d hd' (mem_leadsN.1 hd).1 e'
  · rw [List.mem_append, List.mem_map, List.mem_map]
    constructor
    · intro h
      obtain ⟨x, hx, rfl⟩ := List.mem_map.1 h
      have hx := (mem_leadsN.1 hx).1
      rcases hcov x hx with ⟨d, hd, rfl⟩ | ⟨d, hd, rfl⟩
      · obtain ⟨l, hl, e⟩ := List.mem_map.1 (grp_has h1.ok d hd)
        have hl' := (mem_leadsN.1 hl).1
        have : d ∈ clsN M1 n1 l := by rw [e]; exact cls_self hd
        exact .inl ⟨l, hl, clsN_eq hm (E1.lt l hl') (E1.conn_to h1 hl' (mem_clsN.1 this).2)⟩
      · obtain ⟨l, hl, e⟩ := List.mem_map.1 (grp_has h2.ok d hd)
        have hl' := (mem_leadsN.1 hl).1
        have : d ∈ clsN M2 n2 l := by rw [e]; exact cls_self hd
        exact .inr ⟨l, hl, clsN_eq hm (E2.lt l hl') (E2.conn_to h2 hl' (mem_clsN.1 this).2)⟩
    · rintro (⟨c, hc, rfl⟩ | ⟨c, hc, rfl⟩)
      · exact grp_has hm _ (E1.lt c (mem_leadsN.1 hc).1)
      · exact grp_has hm _ (E2.lt c (mem_leadsN.1 hc).1)
end
/-- Code and number of roots of each piece. -/
noncomputable def pinf (S M : List Int) (n : Nat) : List (List Int × Int) := (grpOf M n).map fun G => ((pieOf S M n G).1, (pieOf S M n G).2.2)
theorem cls_pos {M : List Int} {n c : Nat} (hc : c < n) : 0 < (clsN M n c).length := List.length_pos_of_mem (cls_self hc)
theorem emb_pie {S M S' M' : List Int} {n n' : Nat} {e : Nat → Nat} (E : Emb M n M' n' e) (hm : Mates M n) (hS : ∀ c, c < n → nth S' (e c) = nth S c) (hn : n ≤ n') {c : Nat} (hc : c < n) :
    (pieOf S' M' n' (clsN M' n' (e c))).1 = (pieOf S M n (clsN M n c)).1 ∧ (pieOf S' M' n' (clsN M' n' (e c))).2.2 = (pieOf S M n (clsN M n c)).2.2 :=
  pie_least (cls_pos hc) (cls_pos (E.lt c hc)) e (cls_emb E hm hc) fun _ hr => emb_code E (fun _ hx => hm.lt hx) hS (mem_clsN.1 hr).1 hn
/-- What two diagrams that cover a third say of its pieces. -/
theorem pinf_cover {S1 M1 S2 M2 S' M' : List Int} {n1 n2 n' : Nat} {e1 e2 : Nat → Nat} (E1 : Emb M1 n1 M' n' e1) (E2 : Emb M2 n2 M' n' e2) (h1 : Mates M1 n1) (h2 : Mates M2 n2) (hm : MateOk M' n')
    (hcov : ∀ c, c < n' → (∃ d, d < n1 ∧ e1 d = c) ∨ ∃ d, d < n2 ∧ e2 d = c) (hdis : ∀ c d, c < n1 → d < n2 → e1 c ≠ e2 d)
    (hS1 : ∀ c, c < n1 → nth S' (e1 c) = nth S1 c) (hS2 : ∀ c, c < n2 → nth S' (e2 c) = nth S2 c) (hn1 : n1 ≤ n') (hn2 : n2 ≤ n') :
    (pinf S' M' n').Perm (pinf S1 M1 n1 ++ pinf S2 M2 n2) := by
  unfold pinf
  refine ((grp_cover E1 E2 h1 h2 hm hcov hdis).map _).trans ?_
  rw [List.map_append, List.map_map, List.map_map]
  unfold grpOf
  rw [List.map_map, List.map_map]
  refine List.Perm.of_eq ?_
  congr 1
  · refine List.map_congr_left fun c hc => ?_
    have := emb_pie E1 h1 hS1 hn1 (mem_leadsN.1 hc).1
    show ((pieOf S' M' n' (clsN M' n' (e1 c))).1, (pieOf S' M' n' (clsN M' n' (e1 c))).2.2) = ((pieOf S1 M1 n1 (clsN M1 n1 c)).1, (pieOf S1 M1 n1 (clsN M1 n1 c)).2.2)
    rw [this.1, this.2]
  · refine List.map_congr_left fun c hc => ?_
    have := emb_pie E2 h2 hS2 hn2 (mem_leadsN.1 hc).1
    show ((pieOf S' M' n' (clsN M' n' (e2 c))).1, (pieOf S' M' n' (clsN M' n' (e2 c))).2.2) = ((pieOf S2 M2 n2 (clsN M2 n2 c)).1, (pieOf S2 M2 n2 (clsN M2 n2 c)).2.2)
    rw [this.1, this.2]
/-- One that covers it. -/
theorem pinf_iso {S M S' M' : List Int} {n : Nat} {e : Nat → Nat} (E : Emb M n M' n e) (h : Mates M n) (hm : MateOk M' n) (hcov : ∀ c, c < n → ∃ d, d < n ∧ e d = c) (hS : ∀ c, c < n → nth S' (e c) = nth S c) : (pinf S' M' n).Perm (pinf S M n) := by
  have E2 : Emb [] 0 M' n e := ⟨fun c hc => by omega, fun c d hc => by omega, fun h hh => by omega⟩
  have h2 : Mates [] 0 := ⟨⟨fun h hh => by omega, fun h hh => by omega⟩, fun x hx => by omega⟩
  have := pinf_cover (S2 := []) E E2 h h2 hm (fun c hc => .inl (hcov c hc)) (fun c d _ hd => by omega) hS (fun c hc => by omega) (Nat.le_refl _) (Nat.zero_le _)
  have z : pinf [] [] 0 = [] := rfl
  rw [z, List.append_nil] at this
  exact this
end Go.Proofs.YtmjoijfafachhaaGreatDoor


