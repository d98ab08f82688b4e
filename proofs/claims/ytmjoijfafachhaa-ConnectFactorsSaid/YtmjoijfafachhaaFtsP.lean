/- Plain law: the prime factors are valid, have no cuts, and as many crossings as the diagram. -/
import Derived.Test.YtmjoijfafachhaaFtsW
namespace Go.Proofs.Ytmjoijfafachhaa
open Go Go.RowKit
/-- One graph component at most. -/
def Cn (M : List Int) (n : Nat) : Prop := ∀ c d, c < n → d < n → Conn M c d
def crs (ds : List Dgm) : Nat := (ds.map fun d => d.1.length).sum
theorem crs_append (a b : List Dgm) : crs (a ++ b) = crs a + crs b := by unfold crs; rw [List.map_append, List.sum_append_nat]
theorem crs_take {ds : List Dgm} {i : Nat} (h : i < ds.length) : crs (ds.take (i + 1)) = crs (ds.take i) + (ds.getD i ([], [], 0)).1.length := by
  rw [List.take_add_one, getD_some (d := ([], [], 0)) h, crs_append]; unfold crs; simp
theorem crs_one (d : Dgm) : crs [d] = d.1.length := by unfold crs; simp
theorem part_cn {S M : List Int} {L : Int} (hv : vldB S M L = true) {c : Nat} (hcn : c < S.length) : Cn (partM M (clsN M S.length c)) (clsN M S.length c).length := fun a b ha hb => by
  have hm := (vldB_shape hv).mates2
  have hw := whole_cls hm.ok c
  have hg := part_emb hv hw
  have hp := part_valid hv hw (L' := 0) (Int.le_refl _) (by omega)
  have hpm := (vldB_shape hp).mates2
  rw [partS_len] at hpm
  have ga := (mem_clsN.1 (part_get hw ha).1)
  have gb := (mem_clsN.1 (part_get hw hb).1)
  exact (hg.conn_iff hpm ha hb).1 ((hm.ok.conn_symm hcn ga.2).trans gb.2)
theorem fac_cn {S M : List Int} {L : Int} (hv : vldB S M L = true) {p : Nat × Nat} (hp : p ∈ cutsL S M) : Cn (facA S M p.1 p.2).2.1 (facA S M p.1 p.2).1.length ∧ Cn (facB S M p.1 p.2).2.1 (facB S M p.1 p.2).1.length := by
  obtain ⟨h1, h2, h3, h4, h5, h6⟩ := (mem_cuts hv).1 hp
  obtain ⟨hv', _⟩ := cut_sph hv (by omega) h2 h3 h4 (by omega) h5 h6
  have a := part_cn hv' (c := p.1 / 4) (by omega)
  have b := part_cn hv' (c := p.2 / 4) (by omega)
  constructor
  · show Cn (partM (crossL M p.1 p.2) (clsN (crossL M p.1 p.2) S.length (p.1 / 4))) (partS S (clsN (crossL M p.1 p.2) S.length (p.1 / 4))).length
    rw [partS_len]; exact a
  · show Cn (partM (crossL M p.1 p.2) (clsN (crossL M p.1 p.2) S.length (p.2 / 4))) (partS S (clsN (crossL M p.1 p.2) S.length (p.2 / 4))).length
    rw [partS_len]; exact b
theorem fac_total {S M : List Int} {L : Int} (hv : vldB S M L = true) (hcn : Cn M S.length) {p : Nat × Nat} (hp : p ∈ cutsL S M) : (facA S M p.1 p.2).1.length + (facB S M p.1 p.2).1.length = S.length := by
  have hle := (fac_sum hv hp).1
  obtain ⟨h1, h2, h3, h4, h5, h6⟩ := (mem_cuts hv).1 hp
  have hx : p.1 < 4 * S.length := by omega
  obtain ⟨hv', hno⟩ := cut_sph hv hx h2 h3 h4 (by omega) h5 h6
  have hm := (vldB_shape hv').mates2.ok
  have hsub := (List.nodup_range (n := S.length)).length_le_of_subset (l₂ := clsN (crossL M p.1 p.2) S.length (p.1 / 4) ++ clsN (crossL M p.1 p.2) S.length (p.2 / 4)) fun c hc => by
    have hcl := List.mem_range.1 hc
    have ht := cross_tie hv hx h2 h3 h4 (by omega) hcl (hcn c (p.1 / 4) hcl (by omega))
    rw [List.mem_append]
    have hs := fun (d : Nat) (hd : d < S.length) (h : Conn (crossL M p.1 p.2) c d) => mem_clsN.2 ⟨hcl, hm.conn_symm hcl h⟩
    rcases ht with h | ⟨h | h, _⟩
    · exact .inl (hs _ (by omega) h)
    · exact .inl (hs _ (by omega) h)
    · exact .inr (hs _ (by omega) h)
  rw [List.length_range, List.length_append] at hsub
  have e1 : (facA S M p.1 p.2).1.length = (clsN (crossL M p.1 p.2) S.length (p.1 / 4)).length := partS_len _ _
  have e2 : (facB S M p.1 p.2).1.length = (clsN (crossL M p.1 p.2) S.length (p.2 / 4)).length := partS_len _ _
  omega
theorem primeL_all : ∀ (n : Nat) (S M : List Int) (L : Int), S.length ≤ n → vldB S M L = true → (∀ d ∈ primeL S M L, vldB d.1 d.2.1 d.2.2 = true ∧ cutsL d.1 d.2.1 = []) ∧ (Cn M S.length → crs (primeL S M L) = S.length) := fun n => by
  induction n with
  | zero =>
    intro S M L hn hv
    cases h : cutsL S M with
    | nil =>
      rw [primeL_none h]
      refine ⟨fun d hd => ?_, fun _ => crs_one _⟩
      obtain rfl := List.mem_singleton.1 hd
      exact ⟨hv, h⟩
    | cons p l => have := (fac_cuts0 hv h).2.2.2.1; omega
  | succ n ih =>
    intro S M L hn hv
    cases h : cutsL S M with
    | nil =>
      rw [primeL_none h]
      refine ⟨fun d hd => ?_, fun _ => crs_one _⟩
      obtain rfl := List.mem_singleton.1 hd
      exact ⟨hv, h⟩
    | cons p l =>
      obtain ⟨_, va, vb, la, lb⟩ := fac_cuts0 hv h
      have hp : p ∈ cutsL S M := by rw [h]; exact List.mem_cons_self
      have iA := ih _ _ _ (by omega) va
      have iB := ih _ _ _ (by omega) vb
      rw [primeL_cons hv h]
      refine ⟨fun d hd => ?_, fun hcn => ?_⟩
      · rcases List.mem_append.1 hd with g | g
        · exact iA.1 d g
        · exact iB.1 d g
      · have hc := fac_cn hv hp
        rw [crs_append, iA.2 hc.1, iB.2 hc.2, fac_total hv hcn hp]
theorem split_cn {S M : List Int} {L : Int} (hv : vldB S M L = true) : ∀ d ∈ splitL S M L, Cn d.2.1 d.1.length := fun d hd => by
  unfold splitL at hd
  rcases List.mem_append.1 hd with h | h
  · obtain ⟨G, hG, rfl⟩ := List.mem_map.1 h
    obtain ⟨c, hc, rfl⟩ := List.mem_map.1 hG
    show Cn (partM M (clsN M S.length c)) (partS S (clsN M S.length c)).length
    rw [partS_len]
    exact part_cn hv (mem_leadsN.1 hc).1
  · obtain ⟨_, rfl⟩ := List.mem_replicate.1 h
    intro a b ha
    exact absurd ha (Nat.not_lt_zero _)
theorem groups_total {M : List Int} {n : Nat} (hm : MateOk M n) : ((grpOf M n).map List.length).sum = n := by
  rw [← List.length_flatten]
  have hnd : (grpOf M n).flatten.Nodup := by
    unfold grpOf
    show List.Pairwise (· ≠ ·) _
    rw [List.pairwise_flatten]
    refine ⟨fun l hl => ?_, ?_⟩
    · obtain ⟨c, _, rfl⟩ := List.mem_map.1 hl
      exact (whole_cls hm c).nd
    · rw [List.pairwise_map]
      have hp : (leadsN M n).Pairwise (· < ·) := (range_rising n).sublist List.filter_sublist
      refine List.Pairwise.imp_of_mem ?_ hp
      intro a b ha hb hab c hca d hcb hcd
      subst hcd
      have hb2 := (mem_leadsN.1 hb).2 a hab
      have hbl := (mem_leadsN.1 hb).1
      exact hb2 ((mem_clsN.1 hca).2.trans (hm.conn_symm hbl (mem_clsN.1 hcb).2))
  have hperm : (grpOf M n).flatten.Perm (List.range n) := (List.perm_ext_iff_of_nodup hnd List.nodup_range).2 fun c => by
    rw [List.mem_range]
    constructor
    · intro h
      obtain ⟨G, hG, hc⟩ := List.mem_flatten.1 h
      exact (grp_whole hm hG).1.lt c hc
    · intro h
      exact List.mem_flatten.2 ⟨_, grp_has hm c h, cls_self h⟩
  have := hperm.length_eq
  rwa [List.length_range] at this
theorem split_crs {S M : List Int} {L : Int} (hv : vldB S M L = true) : crs (splitL S M L) = S.length := by
  unfold splitL
  rw [crs_append]
  have h1 : crs ((grpOf M S.length).map fun G => ((partS S G, partM M G, (0 : Int)) : Dgm)) = S.length := by
    have hg := groups_total (vldB_shape hv).mates
    unfold crs
    rw [List.map_map]
    have e : ((fun d : Dgm => d.1.length) ∘ fun G => ((partS S G, partM M G, (0 : Int)) : Dgm)) = List.length := by funext G; exact partS_len S G
    rw [e]; exact hg
  have h2 : crs (List.replicate L.toNat (([], [], 1) : Dgm)) = 0 := by unfold crs; simp
  omega
theorem primes_crs : ∀ (ds : List Dgm), (∀ d ∈ ds, vldB d.1 d.2.1 d.2.2 = true ∧ Cn d.2.1 d.1.length) → (∀ d ∈ primesL ds, vldB d.1 d.2.1 d.2.2 = true ∧ cutsL d.1 d.2.1 = []) ∧ crs (primesL ds) = crs ds := fun ds => by
  induction ds with
  | nil => intro _; exact ⟨fun d hd => absurd hd List.not_mem_nil, rfl⟩
  | cons a ds ih =>
    intro h
    obtain ⟨h1, h2⟩ := h a List.mem_cons_self
    obtain ⟨i1, i2⟩ := ih fun d hd => h d (List.mem_cons_of_mem _ hd)
    obtain ⟨p1, p2⟩ := primeL_all _ _ _ _ (Nat.le_refl _) h1
    have e : primesL (a :: ds) = primeL a.1 a.2.1 a.2.2 ++ primesL ds := rfl
    rw [e, crs_append, p2 h2, i2]
    refine ⟨fun d hd => ?_, ?_⟩
    · rcases List.mem_append.1 hd with g | g
      · exact p1 d g
      · exact i1 d g
    · show _ = crs ([a] ++ ds)
      rw [crs_append, crs_one]
theorem factors_good {S M : List Int} {L : Int} (hv : vldB S M L = true) : (∀ d ∈ factorsL S M L, vldB d.1 d.2.1 d.2.2 = true ∧ cutsL d.1 d.2.1 = []) ∧ crs (factorsL S M L) = S.length := by
  obtain ⟨h1, h2⟩ := primes_crs (splitL S M L) fun d hd => ⟨split_valid hv d hd, split_cn hv d hd⟩
  exact ⟨h1, h2.trans (split_crs hv)⟩
theorem factors_len {S M : List Int} {L : Int} (hv : vldB S M L = true) : (factorsL S M L).length ≤ 64 * 128 := by
  have h1 := primesL_len (split_valid hv) _ (Nat.le_refl _)
  rw [List.take_length] at h1
  have h2 := split_len hv
  unfold factorsL; omega
end Go.Proofs.Ytmjoijfafachhaa
