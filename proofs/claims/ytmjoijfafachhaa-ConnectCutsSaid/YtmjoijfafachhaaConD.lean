/- Plain law: the graph components as lists, in the order of their least crossings; what label's numbers give. -/
import Derived.Test.YtmjoijfafachhaaConC
namespace Go.Proofs.Ytmjoijfafachhaa
open Go Go.RowKit
/-- Does it hold? -/
noncomputable def okC (p : Prop) : Bool := @decide p (Classical.propDecidable p)
theorem okC_iff {p : Prop} : okC p = true ↔ p := @decide_eq_true_iff p (Classical.propDecidable p)
/-- The least crossings of the parts. -/
noncomputable def leadsN (M : List Int) (n : Nat) : List Nat := (List.range n).filter fun c => okC (∀ d, d < c → ¬ Conn M d c)
noncomputable def clsN (M : List Int) (n c : Nat) : List Nat := (List.range n).filter fun d => okC (Conn M c d)
/-- The parts. -/
noncomputable def grpOf (M : List Int) (n : Nat) : List (List Nat) := (leadsN M n).map (clsN M n)
theorem mem_leadsN {M : List Int} {n c : Nat} : c ∈ leadsN M n ↔ c < n ∧ ∀ d, d < c → ¬ Conn M d c := by
  unfold leadsN
  rw [List.mem_filter, List.mem_range, okC_iff]
theorem mem_clsN {M : List Int} {n c d : Nat} : d ∈ clsN M n c ↔ d < n ∧ Conn M c d := by
  unfold clsN
  rw [List.mem_filter, List.mem_range, okC_iff]
/-- What a round of label leaves. -/
theorem LbOut.round_keep {M : List Int} {n c : Nat} {st : List Int × Int} (hm : MateOk M n) (h : LbOut M n c st) (hc : c < n) (hn : n ≤ 1000) : ∃ st', lbRound M 1000000 c st = some st' ∧ (st' = st ∧ 0 ≤ nth st.1 c ∨ st'.2 = st.2 + 1 ∧ nth st'.1 c = st.2 ∧ ∀ d, d < n → 0 ≤ nth st.1 d → nth st'.1 d = nth st.1 d) := by
  unfold lbRound
  by_cases hneg : 0 ≤ nth st.1 c
  · rw [if_pos hneg]; exact ⟨st, rfl, .inl ⟨rfl, hneg⟩⟩
  · rw [if_neg hneg]
    have hlen := h.base.len
    have hset := fun j => nth_set st.1 c j st.2 (by rw [hlen]; exact hc)
    have hinv : LbInv M n st.2 c st.1 (st.1.set c st.2, [(c : Int)]) := by
      refine ⟨by simpa using hlen, ?_, ?_, ?_⟩
      · intro x hx
        simp only [List.mem_singleton] at hx
        subst hx
        exact ⟨c, rfl, hc, by simp only; rw [hset, if_pos rfl]⟩
      · intro d hd hnn
        simp only
        rw [hset]
        split
        · rename_i e; subst e; omega
        · rfl
      · intro d hd
        simp only
        rw [hset]
        split
        · rename_i e; subst e; exact .inr ⟨rfl, Conn.refl M c⟩
        · exact .inl rfl
    have hng : negs (st.1.set c st.2) + 1 ≤ 1000000 := by
      have := negs_le (st.1.set c st.2)
      rw [List.length_set, hlen] at this
      omega
    obtain ⟨part, k1, k2, k3, k4⟩ := LbInv.queue hm h.lo h.base 1000000 _ hinv (by simpa using hng) (by
        intro b hb hbp
        simp only at hbp ⊢
        rw [hset] at hbp
        split at hbp
        · rename_i e; subst e; exact .inl (by simp)
        · have := h.base.lt b hb; omega) (by
        intro x hx b hxb
        simp only [List.mem_singleton] at hx
        have : b = c := by omega
        subst this
        exact Conn.refl M _)
    rw [k1]
    refine ⟨_, rfl, .inr ⟨rfl, ?_, fun d hd h0 => ?_⟩⟩
    · have := k4 c hc (by simp only; rw [hset, if_pos rfl]; exact h.lo)
      simp only at this ⊢
      rw [this, hset, if_pos rfl]
    · have := k2.old d hd h0
      simpa using this
/-- The numbers come in the order of their first crossings. -/
def LbOrd (c : Nat) (st : List Int × Int) : Prop := ∀ q : Nat, (q : Int) < st.2 → ∃ d, d < c ∧ nth st.1 d = (q : Int) ∧ ∀ e, e < d → nth st.1 e < (q : Int)
theorem label_ord {M : List Int} {n : Nat} (hm : MateOk M n) (hn : n ≤ 1000) : ∀ (k c : Nat) (st : List Int × Int), LbOut M n c st → LbOrd c st → c + k = n → ∀ r, lbOuter M 1000000 k c st = some r → LbOrd n r := by
  intro k
  induction k with
  | zero =>
    intro c st h ho hc r hr
    have e : c = n := by omega
    subst e
    have hr : some st = some r := hr
    cases hr
    exact ho
  | succ k ih =>
    intro c st h ho hc r hr
    obtain ⟨st1, h1, h2⟩ := h.round hm (by omega) hn
    obtain ⟨st1', h1', h3⟩ := h.round_keep hm (by omega) hn
    rw [h1] at h1'
    cases h1'
    rw [lbOuter, h1] at hr
    refine ih (c + 1) st1 h2 (fun q hq => ?_) (by omega) r hr
    rcases h3 with ⟨rfl, _⟩ | ⟨e1, e2, e3⟩
    · obtain ⟨d, d1, d2, d3⟩ := ho q hq
      exact ⟨d, by omega, d2, d3⟩
    · by_cases g : (q : Int) < st.2
      · obtain ⟨d, d1, d2, d3⟩ := ho q g
        refine ⟨d, by omega, by rw [e3 d (by omega) (by omega)]; exact d2, fun e he => ?_⟩
        rw [e3 e (by omega) (h.seen e (by omega))]
        exact d3 e he
      · refine ⟨c, by omega, by omega, fun e he => ?_⟩
        rw [e3 e (by omega) (h.seen e he)]
        have := h.base.lt e (by omega)
        omega
theorem label_ordered {M : List Int} {n : Nat} (hm : MateOk M n) (hn : n ≤ 1000) {part : List Int} {parts : Nat} (h : lbOuter M 1000000 n 0 (List.replicate n (-1), 0) = some (part, (parts : Int))) : ∀ q, q < parts → ∃ d, d < n ∧ nth part d = (q : Int) ∧ ∀ e, e < d → nth part e < (q : Int) := by
  have h0 : LbOut M n 0 (List.replicate n (-1), 0) := by
    have hr : ∀ d, d < n → nth (List.replicate n (-1 : Int)) d = -1 := fun d hd => nth_replicate n d (-1) hd
    refine ⟨⟨by simp, fun d hd => ?_, fun c d hc _ hnn => ?_⟩, Int.le_refl _, Int.le_refl _, fun d hd => ?_, fun d hd => by omega, fun a b ha _ hnn => ?_, fun q hq => ?_⟩
    · simp only; rw [hr d hd]; omega
    · simp only at hnn; rw [hr c hc] at hnn; omega
    · simp only; rw [hr d hd]; omega
    · simp only at hnn; rw [hr a ha] at hnn; omega
    · simp only at hq; omega
  have := label_ord hm hn n 0 _ h0 (fun q hq => by simp only at hq; omega) (by omega) _ h
  exact fun q hq => this q (by simp only; omega)
/-- Two rising lists with the same members are one. -/
theorem rising_eq {l r : List Nat} (hl : l.Pairwise (· < ·)) (hr : r.Pairwise (· < ·)) (h : ∀ x, x ∈ l ↔ x ∈ r) : l = r := by
  have nl : l.Nodup := hl.imp fun e => Nat.ne_of_lt e
  have nr : r.Nodup := hr.imp fun e => Nat.ne_of_lt e
  exact ((List.perm_ext_iff_of_nodup nl nr).2 h).eq_of_pairwise (fun _ _ _ _ a b => absurd a (Nat.lt_asymm b)) hl hr
theorem range_rising (n : Nat) : (List.range n).Pairwise (· < ·) := List.pairwise_lt_range
/-- The crossings that bear number p, and the parts: the same lists. -/
theorem groups_eq {M : List Int} {n : Nat} {part : List Int} {parts : Nat} (hl : Labels M n part parts) (ho : ∀ q, q < parts → ∃ d, d < n ∧ nth part d = (q : Int) ∧ ∀ e, e < d → nth part e < (q : Int)) :
    (List.range parts).map (fun p : Nat => (List.range n).filter fun d => decide (nth part d = (p : Int))) = grpOf M n := by
  have hex : ∀ q, ∃ d, q < parts → d < n ∧ nth part d = (q : Int) ∧ ∀ e, e < d → nth part e < (q : Int) := fun q => by
    by_cases h : q < parts
    · obtain ⟨d, hd⟩ := ho q h; exact ⟨d, fun _ => hd⟩
    · exact ⟨0, fun g => absurd g h⟩
  obtain ⟨ld, hld⟩ := Classical.axiomOfChoice hex
  have hmono : ∀ p q, p < q → q < parts → ld p < ld q := fun p q hpq hq => by
    obtain ⟨a1, a2, a3⟩ := hld p (by omega)
    obtain ⟨b1, b2, b3⟩ := hld q hq
    rcases Nat.lt_trichotomy (ld p) (ld q) with g | g | g
    · exact g
    · rw [g] at a2; omega
    · have := a3 _ g; omega
  have hlead : (List.range parts).map ld = leadsN M n := by
    refine rising_eq ?_ ((range_rising n).sublist List.filter_sublist) fun x => ?_
    · rw [List.pairwise_map]
      refine (range_rising parts).imp_of_mem fun {a b} ha hb hab => hmono a b hab (List.mem_range.1 hb)
    · rw [mem_leadsN, List.mem_map]
      constructor
      · rintro ⟨p, hp, rfl⟩
        obtain ⟨a1, a2, a3⟩ := hld p (List.mem_range.1 hp)
        refine ⟨a1, fun d hd hc => ?_⟩
        have := (hl.iff d (ld p) (by omega) a1).2 hc
        have := a3 d hd
        omega
      · rintro ⟨hx, hn⟩
        obtain ⟨r1, r2⟩ := hl.range x hx
        have hp : (nth part x).toNat < parts := by omega
        obtain ⟨a1, a2, a3⟩ := hld _ hp
        have hc := (hl.iff (ld (nth part x).toNat) x a1 hx).1 (by omega)
        refine ⟨_, List.mem_range.2 hp, ?_⟩
        rcases Nat.lt_trichotomy (ld (nth part x).toNat) x with g | g | g
        · exact absurd hc (hn _ g)
        · exact g
        · have := a3 x g; omega
  unfold grpOf
  rw [← hlead, List.map_map]
  refine List.map_congr_left fun p hp => ?_
  obtain ⟨a1, a2, _⟩ := hld p (List.mem_range.1 hp)
  show _ = clsN M n (ld p)
  unfold clsN
  refine List.filter_congr fun d hd => ?_
  have hd := List.mem_range.1 hd
  rw [Bool.eq_iff_iff, decide_eq_true_eq, okC_iff, ← hl.iff (ld p) d a1 hd, a2]
  exact eq_comm
/-- The reference's parts. -/
theorem rgroups_eq {M : List Int} {n : Nat} (hm : MateOk M n) : ((List.range n).filter fun c => decide (nth (rlabel M n) c = (c : Int))).map (fun c : Nat => (List.range n).filter fun d => decide (nth (rlabel M n) d = (c : Int))) = grpOf M n := by
  have hlead : ((List.range n).filter fun c => decide (nth (rlabel M n) c = (c : Int))) = leadsN M n := by
    unfold leadsN
    refine List.filter_congr fun c hc => ?_
    have hc := List.mem_range.1 hc
    obtain ⟨d, d1, d2, d3, d4⟩ := rlabel_spec hm c hc
    rw [Bool.eq_iff_iff, decide_eq_true_eq, okC_iff, d1]
    constructor
    · intro e d' hd' hcd
      have := d4 d' (hm.conn_symm (by omega) hcd)
      omega
    · intro h
      have := d4 c (Conn.refl M c)
      rcases Nat.lt_or_ge d c with g | g
      · exact absurd (hm.conn_symm hc d3) (h d g)
      · omega
  unfold grpOf
  rw [hlead]
  refine List.map_congr_left fun c hc => ?_
  obtain ⟨c1, c2⟩ := mem_leadsN.1 hc
  unfold clsN
  refine List.filter_congr fun d hd => ?_
  have hd := List.mem_range.1 hd
  have hcl : nth (rlabel M n) c = (c : Int) := by
    have : c ∈ (List.range n).filter fun c => decide (nth (rlabel M n) c = (c : Int)) := by rw [hlead]; exact hc
    rw [List.mem_filter, decide_eq_true_eq] at this
    exact this.2
  rw [Bool.eq_iff_iff, decide_eq_true_eq, okC_iff, ← rlabel_iff hm c d c1 hd, hcl]
  exact eq_comm
/-! ### A part by itself. -/
/-- The number of a crossing within a list. -/
def idxI (G : List Nat) (c : Nat) : Nat := G.idxOf c
def partS (S : List Int) (G : List Nat) : List Int := G.map fun c => nth S c
def partV (M : List Int) (G : List Nat) (h : Nat) : Int := 4 * ((idxI G (mt M h / 4) : Nat) : Int) + ((mt M h % 4 : Nat) : Int)
def partM (M : List Int) (G : List Nat) : List Int := (List.range (4 * G.length)).map fun k => partV M G (4 * G.getD (k / 4) 0 + k % 4)
theorem partS_len (S : List Int) (G : List Nat) : (partS S G).length = G.length := by simp [partS]
theorem partM_len (M : List Int) (G : List Nat) : (partM M G).length = 4 * G.length := by simp [partM]
theorem partS_nth {S : List Int} {G : List Nat} {c : Nat} (h : c < G.length) : nth (partS S G) c = nth S (G.getD c 0) := by simp [partS, nth, h]
theorem partM_nth {M : List Int} {G : List Nat} {k : Nat} (h : k < 4 * G.length) : nth (partM M G) k = partV M G (4 * G.getD (k / 4) 0 + k % 4) := by simp [partM, nth, h]
/-- A whole set of parts. -/
structure Whole (M : List Int) (n : Nat) (G : List Nat) : Prop where
  lt : ∀ c ∈ G, c < n
  nd : G.Nodup
  cl : ∀ c ∈ G, ∀ d, Adj M c d → d ∈ G
section
variable {S M : List Int} {L : Int} (hv : vldB S M L = true) {G : List Nat} (hG : Whole M S.length G)
include hv hG
omit hv in
theorem part_get {c : Nat} (hc : c < G.length) : G.getD c 0 ∈ G ∧ idxI G (G.getD c 0) = c := by
  have e : G.getD c 0 = G[c] := by simp [hc]
  rw [e]
  exact ⟨List.getElem_mem hc, hG.nd.idxOf_getElem c hc⟩
theorem part_emb : Emb (partM M G) G.length M S.length (fun c => G.getD c 0) := by
  have _ := hv
  refine ⟨fun c hc => hG.lt _ (part_get hG hc).1, fun c d hc hd e => ?_, fun h hh => ?_⟩
  · rw [← (part_get hG hc).2, ← (part_get hG hd).2]
    exact congrArg (idxI G) e
  · have hg := part_get hG (c := h / 4) (by omega)
    have hin := hG.cl _ hg.1 (mt M (4 * G.getD (h / 4) 0 + h % 4) / 4) ⟨h % 4, by omega, rfl⟩
    have hi : idxI G (mt M (4 * G.getD (h / 4) 0 + h % 4) / 4) < G.length := List.idxOf_lt_length_iff.2 hin
    have e1 : mt (partM M G) h = 4 * idxI G (mt M (4 * G.getD (h / 4) 0 + h % 4) / 4) + mt M (4 * G.getD (h / 4) 0 + h % 4) % 4 := by
      have : mt (partM M G) h = (nth (partM M G) h).toNat := rfl
      rw [this, partM_nth hh]; unfold partV; omega
    have e2 : G.getD (idxI G (mt M (4 * G.getD (h / 4) 0 + h % 4) / 4)) 0 = mt M (4 * G.getD (h / 4) 0 + h % 4) / 4 := by
      have : G.getD (idxI G (mt M (4 * G.getD (h / 4) 0 + h % 4) / 4)) 0 = G[idxI G (mt M (4 * G.getD (h / 4) 0 + h % 4) / 4)] := by rw [List.getD_eq_getElem?_getD, List.getElem?_eq_getElem hi]; rfl
      rw [this]
      exact List.getElem_idxOf hi
    show mt M (4 * G.getD (h / 4) 0 + h % 4) = 4 * G.getD (mt (partM M G) h / 4) 0 + mt (partM M G) h % 4
    rw [e1, show (4 * idxI G (mt M (4 * G.getD (h / 4) 0 + h % 4) / 4) + mt M (4 * G.getD (h / 4) 0 + h % 4) % 4) / 4 = idxI G (mt M (4 * G.getD (h / 4) 0 + h % 4) / 4) by omega, e2]
    omega
theorem part_range : ∀ h, h < 4 * G.length → 0 ≤ nth (partM M G) h ∧ nth (partM M G) h < 4 * (G.length : Int) := fun h hh => by
  have _ := hv
  have hg := part_get hG (c := h / 4) (by omega)
  have hin := hG.cl _ hg.1 (mt M (4 * G.getD (h / 4) 0 + h % 4) / 4) ⟨h % 4, by omega, rfl⟩
  have hi : idxI G (mt M (4 * G.getD (h / 4) 0 + h % 4) / 4) < G.length := List.idxOf_lt_length_iff.2 hin
  rw [partM_nth hh]; unfold partV; omega
theorem part_out {h : Nat} (hh : h < 4 * G.length) : outB (partS S G) h = outB S (upE (fun c => G.getD c 0) h) := by
  have _ := hv
  have _ := hG
  unfold outB
  rw [upE_div, upE_mod, partS_nth (by omega)]
/-- A part of a diagram is a diagram. -/
theorem part_valid {L' : Int} (h0 : 0 ≤ L') (h64 : L' ≤ 64) : vldB (partS S G) (partM M G) L' = true := by
  obtain ⟨hs, hsp⟩ := vldB_iff.1 hv
  have hm := hs.mates2
  have E := part_emb hv hG
  have hr := part_range hv hG
  have hm' := E.mates hm hr
  have hfew : G.length ≤ S.length := by
    have := hG.nd.length_le_of_subset (l₂ := List.range S.length) fun c hc => List.mem_range.2 (hG.lt c hc)
    simpa using this
  refine vldB_iff.2 ⟨⟨by rw [partS_len]; have := hs.few; omega, by rw [partM_len, partS_len], h0, h64, fun c hc => ?_, fun h hh => ?_⟩, by rw [partS_len]; exact E.sph hm' hm hsp⟩
  · rw [partS_len] at hc
    rw [partS_nth hc]
    exact hs.sign _ (hG.lt _ (part_get hG hc).1)
  · rw [partS_len] at hh ⊢
    have r := hr h hh
    have i := hm'.ok.inv h hh
    have ne := hm'.ne h hh
    refine ⟨r.1, r.2, fun e => ne (by unfold mt; omega), i, ?_⟩
    show outB (partS S G) h ≠ outB (partS S G) (mt (partM M G) h)
    rw [part_out hv hG hh, part_out hv hG (hm'.lt hh), ← E.mate h hh, hs.out_mt (E.up_lt hh)]
    cases outB S (upE (fun c => G.getD c 0) h) <;> decide
end
/-- A part that is told by its least crossing is whole. -/
theorem whole_cls {M : List Int} {n : Nat} (hm : MateOk M n) (c : Nat) : Whole M n (clsN M n c) :=
  ⟨fun _ h => (mem_clsN.1 h).1, List.nodup_range.sublist List.filter_sublist, fun a ha b hab => by
    obtain ⟨a1, a2⟩ := mem_clsN.1 ha
    exact mem_clsN.2 ⟨hm.adj_lt a1 hab, a2.step hab⟩⟩
end Go.Proofs.Ytmjoijfafachhaa
