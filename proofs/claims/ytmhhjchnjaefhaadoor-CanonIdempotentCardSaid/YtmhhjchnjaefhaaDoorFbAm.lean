/- Plain: the pieces of a diagram within another one; the codes do not depend on the numbers of the crossings. canon.pieces: the pieces of a valid diagram, sorted. -/
import Derived.WalkKit
import Derived.WalkSpells
import Derived.WalkLawsBesides
import Derived.Deep.AppendSrc
import Derived.Deep.LoopGhost
import Derived.Deep.QuietTactic
import Derived.Deep.RegionWith
import Derived.Deep.DeepMust
import Derived.Deep.DeepFit
import Derived.BigQuiet
import Derived.Lib.Hide
import Derived.Outline
import Derived.Test.YtmhhjchnjaefhaaDoorProg
import Derived.Deep.Matrix
import Derived.Deep.DeepCutAuto
import Derived.Deep.RegionLaw
import Derived.Deep.RegionHeld3
import Derived.Lib.SliceRun
import Derived.Test.YtmhhjchnjaefhaaDoorFbAa
import Derived.Test.YtmhhjchnjaefhaaDoorFbAb
import Derived.Test.YtmhhjchnjaefhaaDoorFbAc
import Derived.Test.YtmhhjchnjaefhaaDoorFbAd
import Derived.Test.YtmhhjchnjaefhaaDoorFbAe
import Derived.Test.YtmhhjchnjaefhaaDoorFbAf
import Derived.Test.YtmhhjchnjaefhaaDoorFbAg
import Derived.Test.YtmhhjchnjaefhaaDoorFbAh
import Derived.Test.YtmhhjchnjaefhaaDoorFbAi
import Derived.Test.YtmhhjchnjaefhaaDoorFbAj
import Derived.Test.YtmhhjchnjaefhaaDoorFbAk
import Derived.Test.YtmhhjchnjaefhaaDoorFbAl
namespace Go.Proofs.YtmhhjchnjaefhaaDoor
open Go Go.RowKit
theorem up_at (e : Nat → Nat) {c s : Nat} (h : s < 4) : upE e (4 * c + s) = 4 * e c + s := by
  unfold upE
  rw [show (4 * c + s) / 4 = c by omega, show (4 * c + s) % 4 = s by omega]
theorem idx_map {e : Nat → Nat} {n : Nat} (hi : ∀ c d, c < n → d < n → e c = e d → c = d) {d : Nat} (hd : d < n) : ∀ (o : List Nat), (∀ c, c ∈ o → c < n) → (o.map e).idxOf (e d) = o.idxOf d
  | [], _ => rfl
  | a :: o, h => by
    rw [List.map_cons, List.idxOf_cons, List.idxOf_cons, idx_map hi hd o fun c hc => h c (List.mem_cons_of_mem _ hc)]
    by_cases g : a = d
    · subst g; simp
    · have : e a ≠ e d := fun k => g (hi a d (h a List.mem_cons_self) hd k)
      have h1 : (e a == e d) = false := by simpa using this
      have h2 : (a == d) = false := by simpa using g
      rw [h1, h2]
theorem mem_mapE {e : Nat → Nat} {n : Nat} (hi : ∀ c d, c < n → d < n → e c = e d → c = d) {d : Nat} (hd : d < n) {o : List Nat} (h : ∀ c, c ∈ o → c < n) : e d ∈ o.map e ↔ d ∈ o := by
  rw [List.mem_map]
  constructor
  · rintro ⟨a, ha, e1⟩
    rw [← hi a d (h a ha) hd e1]; exact ha
  · exact fun h => ⟨d, h, rfl⟩
theorem getD_map (e : Nat → Nat) {o : List Nat} {i : Nat} (h : i < o.length) : (o.map e).getD i 0 = e (o.getD i 0) := by
  rw [List.getD_eq_getElem?_getD, List.getD_eq_getElem?_getD, List.getElem?_map, List.getElem?_eq_getElem h]; rfl
theorem getD_mem {o : List Nat} {i : Nat} (h : i < o.length) : o.getD i 0 ∈ o := by
  rw [List.getD_eq_getElem?_getD, List.getElem?_eq_getElem h]; exact List.getElem_mem h
section
variable {S M S' M' : List Int} {n n' : Nat} {e : Nat → Nat} (E : Emb M n M' n' e) (hm : ∀ x, x < 4 * n → mt M x < 4 * n)
include E
theorem emb_mt {c s : Nat} (hc : c < n) (hs : s < 4) : mt M' (4 * e c + s) / 4 = e (mt M (4 * c + s) / 4) ∧ mt M' (4 * e c + s) % 4 = mt M (4 * c + s) % 4 := by
  have := E.mate (4 * c + s) (by omega)
  rw [up_at e hs] at this
  rw [this]
  exact ⟨upE_div _ _, upE_mod _ _⟩
include hm
theorem emb_row {c : Nat} (hc : c < n) {o : List Nat} (ho : ∀ d, d ∈ o → d < n) : ∀ k, k ≤ 4 → ordRow M' (e c) k (o.map e) = (ordRow M c k o).map e
  | 0, _ => rfl
  | k + 1, hk => by
    have hl : ∀ d, d ∈ ordRow M c k o → d < n := fun d hd => by
      rcases ordRow_cases hd with h | ⟨s, hs, rfl⟩
      · exact ho d h
      · have := hm (4 * c + s) (by omega); omega
    have hd : mt M (4 * c + k) / 4 < n := by have := hm (4 * c + k) (by omega); omega
    rw [ordRow, ordRow, emb_row hc ho k (by omega), (emb_mt E hc (by omega)).1]
    unfold addN
    by_cases g : mt M (4 * c + k) / 4 ∈ ordRow M c k o
    · rw [if_pos g, if_pos ((mem_mapE E.inj hd hl).2 g)]
    · rw [if_neg g, if_neg fun h => g ((mem_mapE E.inj hd hl).1 h), List.map_append]; rfl
theorem emb_to {r : Nat} (hr : r < n) : ∀ i, ordTo M' (e r) i = (ordTo M r i).map e
  | 0 => rfl
  | i + 1 => by
    rw [ordTo, ordTo, emb_to hr i, List.length_map]
    by_cases g : i < (ordTo M r i).length
    · have ho := ordTo_lt hm hr i
      rw [if_pos g, if_pos g, getD_map e g, emb_row E hm (ho _ (getD_mem g)) ho 4 (by omega)]
    · rw [if_neg g, if_neg g]
theorem emb_ord {r : Nat} (hr : r < n) (hn : n ≤ n') : ordL M' (e r) n' = (ordL M r n).map e := by
  unfold ordL
  rw [emb_to E hm hr]
  obtain ⟨d, rfl⟩ := Nat.exists_eq_add_of_le hn
  rw [ordTo_fix (ordTo_len hm hr n) d]
theorem emb_code (hS : ∀ c, c < n → nth S' (e c) = nth S c) {r : Nat} (hr : r < n) (hn : n ≤ n') : codeL S' M' (e r) n' = codeL S M r n := by
  have ho : ∀ d, d ∈ ordL M r n → d < n := ordTo_lt hm hr n
  unfold codeL
  rw [emb_ord E hm hr hn, List.length_map]
  unfold codeTo
  rw [List.flatMap_eq_foldl, List.flatMap_eq_foldl]
  have key : ∀ i, i ≤ (ordL M r n).length → (List.range i).flatMap (fun j => rowC S' M' ((ordL M r n).map e) (((ordL M r n).map e).getD j 0) 4) = (List.range i).flatMap (fun j => rowC S M (ordL M r n) ((ordL M r n).getD j 0) 4) := fun i hi => by
    rw [List.flatMap_def, List.flatMap_def]
    congr 1
    refine List.map_congr_left fun j hj => ?_
    have hj := List.mem_range.1 hj
    have hjl : j < (ordL M r n).length := by omega
    have hc : (ordL M r n).getD j 0 < n := ho _ (getD_mem hjl)
    rw [getD_map e hjl]
    unfold rowC
    rw [hS _ hc]
    congr 1
    refine List.map_congr_left fun s hs => ?_
    have hs := List.mem_range.1 hs
    have hd : mt M (4 * (ordL M r n).getD j 0 + s) / 4 < n := by have := hm (4 * (ordL M r n).getD j 0 + s) (by omega); omega
    rw [(emb_mt E hc hs).1, (emb_mt E hc hs).2, idx_map E.inj hd _ ho]
  have := key (ordL M r n).length (Nat.le_refl _)
  rw [List.flatMap_eq_foldl, List.flatMap_eq_foldl] at this
  exact this
end
theorem pie_is (S M : List Int) (n : Nat) {G : List Nat} (h : 0 < G.length) : PieIs S M n G (pieOf S M n G) := by
  have key : ∀ k, k < G.length → PieIs S M n (G.take (k + 1)) ((G.take (k + 1)).foldl (pieStep S M n) ([], [], 0)) := fun k => by
    induction k with
    | zero =>
      intro hk
      rw [List.take_add_one, List.getElem?_eq_getElem hk]
      exact PieIs.one S M n _
    | succ k ih =>
      intro hk
      have := (ih (by omega)).next (G[k + 1])
      rw [List.take_add_one, List.getElem?_eq_getElem hk, Option.toList_some, List.foldl_append]
      exact this
  have := key (G.length - 1) (by omega)
  rw [show G.length - 1 + 1 = G.length by omega, List.take_of_length_le (Nat.le_refl _)] at this
  exact this
/-- How many crossings yield the code. -/
def rootsN (S M : List Int) (n : Nat) (G : List Nat) (c : List Int) : Nat := G.countP fun r => decide (codeL S M r n = c)
theorem pie_len {S M : List Int} {n : Nat} {l : List Nat} {p : Dgm} (h : PieIs S M n l p) : p.1.length = 5 * p.2.1.length := by
  obtain ⟨r, _, e1, e2⟩ := h.at_
  rw [e1, e2, nats_length, codeL_len]
theorem pie_roots (S M : List Int) (n : Nat) {G : List Nat} (h : 0 < G.length) : (pieOf S M n G).2.2 = (rootsN S M n G (pieOf S M n G).1 : Int) := by
  have key : ∀ k, k < G.length → ((G.take (k + 1)).foldl (pieStep S M n) ([], [], 0)).2.2 = (rootsN S M n (G.take (k + 1)) ((G.take (k + 1)).foldl (pieStep S M n) ([], [], 0)).1 : Int) := fun k => by
    induction k with
    | zero =>
      intro hk
      rw [List.take_add_one, List.getElem?_eq_getElem hk]
      simp [pieStep, rootsN]
    | succ k ih =>
      intro hk
      have i1 := ih (by omega)
      have h0 := pie_is S M n (G := G.take (k + 1)) (by rw [List.length_take]; omega)
      rw [List.take_add_one, List.getElem?_eq_getElem hk, Option.toList_some, List.foldl_append]
      unfold pieOf at h0
      generalize (G.take (k + 1)).foldl (pieStep S M n) ([], [], 0) = p at *
      obtain ⟨r0, hr0, e1, e2⟩ := h0.at_
      have hne : p.1 ≠ [] := by rw [e1]; exact codeL_ne _ _ _ _
      have hcount : ∀ c, rootsN S M n (G.take (k + 1) ++ [G[k + 1]]) c = rootsN S M n (G.take (k + 1)) c + (if codeL S M G[k + 1] n = c then 1 else 0) := fun c => by
        unfold rootsN
        rw [List.countP_append, List.countP_singleton]
        simp
      show (pieStep S M n p G[k + 1]).2.2 = _
      rw [List.foldl_cons, List.foldl_nil, hcount]
      unfold pieStep
      rw [if_neg hne]
      by_cases h1 : cmpL (codeL S M G[k + 1] n) p.1 < 0
      · rw [if_pos h1]
        show (1 : Int) = _
        have hz : rootsN S M n (G.take (k + 1)) (codeL S M G[k + 1] n) = 0 := by
          unfold rootsN
          rw [List.countP_eq_zero]
          intro r hr
          have := h0.le r hr
          intro hc
          have hc := of_decide_eq_true hc
          rw [hc] at this
          unfold leL at this
          rw [cmpL_swap (codeL S M G[k + 1] n) p.1] at this
          omega
        show (1 : Int) = ((rootsN S M n (G.take (k + 1)) (codeL S M G[k + 1] n) + if codeL S M G[k + 1] n = codeL S M G[k + 1] n then 1 else 0 : Nat) : Int)
        rw [hz, if_pos rfl]; rfl
      · rw [if_neg h1]
        by_cases h2 : cmpL (codeL S M G[k + 1] n) p.1 = 0
        · rw [if_pos h2]
          show p.2.2 + 1 = _
          rw [i1, if_pos (cmpL_zero.1 h2)]; rfl
        · rw [if_neg h2]
          show p.2.2 = _
          rw [i1, if_neg fun h => h2 (cmpL_zero.2 h)]; rfl
  have := key (G.length - 1) (by omega)
  rw [show G.length - 1 + 1 = G.length by omega, List.take_of_length_le (Nat.le_refl _)] at this
  exact this
/-- The least code of some crossings and their number. -/
theorem pie_least {S M S' M' : List Int} {n n' : Nat} {G G' : List Nat} (h : 0 < G.length) (h' : 0 < G'.length) (f : Nat → Nat) (hp : G'.Perm (G.map f)) (hc : ∀ r, r ∈ G → codeL S' M' (f r) n' = codeL S M r n) :
    (pieOf S' M' n' G').1 = (pieOf S M n G).1 ∧ (pieOf S' M' n' G').2.2 = (pieOf S M n G).2.2 := by
  have i := pie_is S M n h
  have j := pie_is S' M' n' h'
  have e : (pieOf S' M' n' G').1 = (pieOf S M n G).1 := by
    obtain ⟨r, hr, e1, _⟩ := i.at_
    obtain ⟨r', hr', e2, _⟩ := j.at_
    refine leL_antisymm ?_ ?_
    · have := j.le (f r) (hp.mem_iff.2 (List.mem_map_of_mem hr))
      rw [hc r hr, ← e1] at this
      exact this
    · obtain ⟨r0, h0, e0⟩ := List.mem_map.1 (hp.mem_iff.1 hr')
      have := i.le r0 h0
      rw [← hc r0 h0, e0, ← e2] at this
      exact this
  refine ⟨e, ?_⟩
  rw [pie_roots _ _ _ h, pie_roots _ _ _ h', e]
  congr 1
  unfold rootsN
  rw [hp.countP_eq, List.countP_map]
  refine List.countP_congr fun r hr => ?_
  show decide (codeL S' M' (f r) n' = _) = true ↔ _
  rw [hc r hr]
theorem leads_eq {M : List Int} {n : Nat} (hm : MateOk M n) {c d : Nat} (hc : c ∈ leadsN M n) (hd : d ∈ leadsN M n) (h : Conn M c d) : c = d := by
  have h1 := mem_leadsN.1 hc
  have h2 := mem_leadsN.1 hd
  rcases Nat.lt_trichotomy c d with g | g | g
  · exact absurd h (h2.2 c g)
  · exact g
  · exact absurd (hm.conn_symm h1.1 h) (h1.2 d g)
theorem grp_nodup {M : List Int} {n : Nat} (hm : MateOk M n) : (grpOf M n).Nodup := by
  unfold grpOf
  have h0 : (leadsN M n).Nodup := List.nodup_range.sublist List.filter_sublist
  rw [List.nodup_iff_pairwise_ne, List.pairwise_map]
  refine List.Pairwise.imp_of_mem (fun {c d} hc hd hne e => hne ?_) h0
  have : d ∈ clsN M n c := by rw [e]; exact cls_self (mem_leadsN.1 hd).1
  exact leads_eq hm hc hd (mem_clsN.1 this).2
theorem leads_nodup (M : List Int) (n : Nat) : (leadsN M n).Nodup := List.nodup_range.sublist List.filter_sublist
section
variable {M1 M2 M' : List Int} {n1 n2 n' : Nat} {e1 e2 : Nat → Nat} (E1 : Emb M1 n1 M' n' e1) (E2 : Emb M2 n2 M' n' e2) (h1 : Mates M1 n1) (h2 : Mates M2 n2) (hm : MateOk M' n')
  (hcov : ∀ c, c < n' → (∃ d, d < n1 ∧ e1 d = c) ∨ ∃ d, d < n2 ∧ e2 d = c) (hdis : ∀ c d, c < n1 → d < n2 → e1 c ≠ e2 d)
theorem cls_emb {M1 M' : List Int} {n1 n' : Nat} {e1 : Nat → Nat} (E1 : Emb M1 n1 M' n' e1) (h1 : Mates M1 n1) {c : Nat} (hc : c < n1) : (clsN M' n' (e1 c)).Perm ((clsN M1 n1 c).map e1) := by
  have nd : (clsN M1 n1 c).Nodup := (whole_cls h1.ok c).nd
  refine (List.perm_ext_iff_of_nodup (List.nodup_range.sublist List.filter_sublist) ?_).2 fun z => ?_
  · rw [List.nodup_iff_pairwise_ne, List.pairwise_map]
    exact List.Pairwise.imp_of_mem (fun {a b} ha hb hne e => hne (E1.inj a b (mem_clsN.1 ha).1 (mem_clsN.1 hb).1 e)) nd
  · rw [List.mem_map]
    constructor
    · intro h
      obtain ⟨d, hd, e, hcd⟩ := E1.conn_back h1 hc (mem_clsN.1 h).2
      exact ⟨d, mem_clsN.2 ⟨hd, hcd⟩, e⟩
    · rintro ⟨d, hd, rfl⟩
      obtain ⟨hd, hcd⟩ := mem_clsN.1 hd
      exact mem_clsN.2 ⟨E1.lt d hd, E1.conn_to h1 hc hcd⟩
include E1 E2 h1 h2 hm hcov hdis
theorem grp_cover : (grpOf M' n').Perm ((leadsN M1 n1).map (fun c => clsN M' n' (e1 c)) ++ (leadsN M2 n2).map (fun c => clsN M' n' (e2 c))) := by
  have cl : ∀ {x y}, y < n' → clsN M' n' x = clsN M' n' y → Conn M' x y := fun {x y} hy e => by
    have : y ∈ clsN M' n' x := by rw [e]; exact cls_self hy
    exact (mem_clsN.1 this).2
  refine (List.perm_ext_iff_of_nodup (grp_nodup hm) ?_).2 fun G => ?_
  · rw [List.nodup_append]
    refine ⟨?_, ?_, ?_⟩
    · rw [List.nodup_iff_pairwise_ne, List.pairwise_map]
      refine List.Pairwise.imp_of_mem (fun {c d} hc hd hne e => hne ?_) (leads_nodup M1 n1)
      exact leads_eq h1.ok hc hd ((E1.conn_iff h1 (mem_leadsN.1 hc).1 (mem_leadsN.1 hd).1).1 (cl (E1.lt d (mem_leadsN.1 hd).1) e))
    · rw [List.nodup_iff_pairwise_ne, List.pairwise_map]
      refine List.Pairwise.imp_of_mem (fun {c d} hc hd hne e => hne ?_) (leads_nodup M2 n2)
      exact leads_eq h2.ok hc hd ((E2.conn_iff h2 (mem_leadsN.1 hc).1 (mem_leadsN.1 hd).1).1 (cl (E2.lt d (mem_leadsN.1 hd).1) e))
    · intro G hG G2 hG2 e
      subst e
      obtain ⟨c, hc, rfl⟩ := List.mem_map.1 hG
      obtain ⟨d, hd, e⟩ := List.mem_map.1 hG2
      obtain ⟨d', hd', e', _⟩ := E1.conn_back h1 (mem_leadsN.1 hc).1 (cl (E2.lt d (mem_leadsN.1 hd).1) e.symm)
      exact hdis d' d hd' (mem_leadsN.1 hd).1 e'
  · rw [List.mem_append, List.mem_map, List.mem_map]
    constructor
    · intro h
      obtain ⟨x, hx, rfl⟩ := List.mem_map.1 h
      have hx := (mem_leadsN.1 hx).1
      rcases hcov x hx with ⟨d, hd, rfl⟩ | ⟨d, hd, rfl⟩
      · obtain ⟨l, hl, e⟩ := List.mem_map.1 (grp_has h1.ok d hd)
        have hl' := (mem_leadsN.1 hl).1
        have : d ∈ clsN M1 n1 l := by rw [e]; exact cls_self hd
        exact .inl ⟨l, hl, clsN_eq hm (E1.lt l hl') (E1.conn_to h1 hl' (mem_clsN.1 this).2)⟩
      · obtain ⟨l, hl, e⟩ := List.mem_map.1 (grp_has h2.ok d hd)
        have hl' := (mem_leadsN.1 hl).1
        have : d ∈ clsN M2 n2 l := by rw [e]; exact cls_self hd
        exact .inr ⟨l, hl, clsN_eq hm (E2.lt l hl') (E2.conn_to h2 hl' (mem_clsN.1 this).2)⟩
    · rintro (⟨c, hc, rfl⟩ | ⟨c, hc, rfl⟩)
      · exact grp_has hm _ (E1.lt c (mem_leadsN.1 hc).1)
      · exact grp_has hm _ (E2.lt c (mem_leadsN.1 hc).1)
end
/-- Code and number of roots of each piece. -/
noncomputable def pinf (S M : List Int) (n : Nat) : List (List Int × Int) := (grpOf M n).map fun G => ((pieOf S M n G).1, (pieOf S M n G).2.2)
theorem cls_pos {M : List Int} {n c : Nat} (hc : c < n) : 0 < (clsN M n c).length := List.length_pos_of_mem (cls_self hc)
theorem emb_pie {S M S' M' : List Int} {n n' : Nat} {e : Nat → Nat} (E : Emb M n M' n' e) (hm : Mates M n) (hS : ∀ c, c < n → nth S' (e c) = nth S c) (hn : n ≤ n') {c : Nat} (hc : c < n) :
    (pieOf S' M' n' (clsN M' n' (e c))).1 = (pieOf S M n (clsN M n c)).1 ∧ (pieOf S' M' n' (clsN M' n' (e c))).2.2 = (pieOf S M n (clsN M n c)).2.2 :=
  pie_least (cls_pos hc) (cls_pos (E.lt c hc)) e (cls_emb E hm hc) fun _ hr => emb_code E (fun _ hx => hm.lt hx) hS (mem_clsN.1 hr).1 hn
/-- What two diagrams that cover a third say of its pieces. -/
theorem pinf_cover {S1 M1 S2 M2 S' M' : List Int} {n1 n2 n' : Nat} {e1 e2 : Nat → Nat} (E1 : Emb M1 n1 M' n' e1) (E2 : Emb M2 n2 M' n' e2) (h1 : Mates M1 n1) (h2 : Mates M2 n2) (hm : MateOk M' n')
    (hcov : ∀ c, c < n' → (∃ d, d < n1 ∧ e1 d = c) ∨ ∃ d, d < n2 ∧ e2 d = c) (hdis : ∀ c d, c < n1 → d < n2 → e1 c ≠ e2 d)
    (hS1 : ∀ c, c < n1 → nth S' (e1 c) = nth S1 c) (hS2 : ∀ c, c < n2 → nth S' (e2 c) = nth S2 c) (hn1 : n1 ≤ n') (hn2 : n2 ≤ n') :
    (pinf S' M' n').Perm (pinf S1 M1 n1 ++ pinf S2 M2 n2) := by
  unfold pinf
  refine ((grp_cover E1 E2 h1 h2 hm hcov hdis).map _).trans ?_
  rw [List.map_append, List.map_map, List.map_map]
  unfold grpOf
  rw [List.map_map, List.map_map]
  refine List.Perm.of_eq ?_
  congr 1
  · refine List.map_congr_left fun c hc => ?_
    have := emb_pie E1 h1 hS1 hn1 (mem_leadsN.1 hc).1
    show ((pieOf S' M' n' (clsN M' n' (e1 c))).1, (pieOf S' M' n' (clsN M' n' (e1 c))).2.2) = ((pieOf S1 M1 n1 (clsN M1 n1 c)).1, (pieOf S1 M1 n1 (clsN M1 n1 c)).2.2)
    rw [this.1, this.2]
  · refine List.map_congr_left fun c hc => ?_
    have := emb_pie E2 h2 hS2 hn2 (mem_leadsN.1 hc).1
    show ((pieOf S' M' n' (clsN M' n' (e2 c))).1, (pieOf S' M' n' (clsN M' n' (e2 c))).2.2) = ((pieOf S2 M2 n2 (clsN M2 n2 c)).1, (pieOf S2 M2 n2 (clsN M2 n2 c)).2.2)
    rw [this.1, this.2]
/-- One that covers it. -/
theorem pinf_iso {S M S' M' : List Int} {n : Nat} {e : Nat → Nat} (E : Emb M n M' n e) (h : Mates M n) (hm : MateOk M' n) (hcov : ∀ c, c < n → ∃ d, d < n ∧ e d = c) (hS : ∀ c, c < n → nth S' (e c) = nth S c) : (pinf S' M' n).Perm (pinf S M n) := by
  have E2 : Emb [] 0 M' n e := ⟨fun c hc => by omega, fun c d hc => by omega, fun h hh => by omega⟩
  have h2 : Mates [] 0 := ⟨⟨fun h hh => by omega, fun h hh => by omega⟩, fun x hx => by omega⟩
  have := pinf_cover (S2 := []) E E2 h h2 hm (fun c hc => .inl (hcov c hc)) (fun c d _ hd => by omega) hS (fun c hc => by omega) (Nat.le_refl _) (Nat.zero_le _)
  have z : pinf [] [] 0 = [] := rfl
  rw [z, List.append_nil] at this
  exact this
end Go.Proofs.YtmhhjchnjaefhaaDoor


namespace Go.Proofs.YtmhhjchnjaefhaaDoor
open Go Go.RowKit
/-- One cell of a box is written; all else stays. -/
theorem HH.put1 {w0 w : World} {y : Nat × (Obj → Prop)} {s : List SlO} {q : Nat} {vs0 : List Value} (h : HH w0 w [y, (q, rowO 51 vs0)] s) (i : Nat) (u : Value) :
    HH w0 (w.setCell ⟨q, i, none⟩ u) [y, (q, rowO 51 (vs0.set i u))] s ∧
    (∀ (B0 : Nat) (a : Option Addr) (xs : List Int), B0 ≤ w0.heap.size → TI w B0 a xs → TI (w.setCell ⟨q, i, none⟩ u) B0 a xs) ∧
    (∀ (B0 : Nat) (vs : List Value) (ds : List Dgm), B0 ≤ w0.heap.size → CellsOf w B0 vs ds → CellsOf (w.setCell ⟨q, i, none⟩ u) B0 vs ds) ∧
    (∀ (B : Nat) (a : Option Addr) (c : Nat) (xss : List (List Int)), OwnRows w B a c xss → OwnRows (w.setCell ⟨q, i, none⟩ u) B a c xss) := by
  have h1 := h.set (k := 1) rfl i u
  have hr := h.row (k := 1) rfl
  have ho := hr.own (h.obj (k := 1) rfl).1
  have t1 := turned_set w q 0 i u
  rw [Nat.zero_add] at t1
  exact ⟨h1, fun B0 a xs hB ht => ht.turned (by decide) hB ho t1, fun B0 vs ds hB hc => hc.turned (by decide) hB ho t1, fun B a c xss hx => hx.turned ho (by decide) (by decide) t1⟩
theorem nats_at (G : List Nat) {k : Nat} (h : k < G.length) : nth (nats G) k = ((G.getD k 0 : Nat) : Int) := by
  unfold nth nats
  rw [List.getD_eq_getElem?_getD, List.getD_eq_getElem?_getD, List.getElem?_map, List.getElem?_eq_getElem h]; rfl
theorem Own.tight {w : World} {B : Nat} {E : TypeId} {b off c : Nat} {vs : List Value} (h : Own w B E (some ⟨b, off, none⟩) c vs) : Own w b E (some ⟨b, off, none⟩) c vs := by
  rcases h with ⟨h, _⟩ | ⟨b', off', cur, he, _, h3⟩
  · cases h
  · cases he
    exact .inr ⟨b, off, cur, rfl, Nat.le_refl _, h3⟩
set_option maxRecDepth 100000 in
set_option maxHeartbeats 1000000 in
theorem cpieces_any (S M : List Int) (L : Int) (aS aM : Option Addr) (cS cM : Nat) (w : World) (hv : vldB S M L = true) (h20 : S.length ≤ 20) (hS : IntsAt w aS S) (hM : IntsAt w aM M) :
    Calls Tryd.prog 44 #[.agg #[.slice aS S.length cS, .slice aM M.length cM, .int .i64 L]] w fun e w' => ∃ A C ys vs, e = .returned (.slice A ys.length C) ∧ SrtTo ((grpOf M S.length).map (pieOf S M S.length)) ys ys.length ∧ Own w' w.heap.size 51 A (C * 3) vs ∧ CellsOf w' w.heap.size vs ys ∧ Below w.heap.size w w' := by
  have hs := vldB_shape hv
  have hm := hs.mates
  have HMT : Hid (∀ x, x < 4 * S.length → mt M x < 4 * S.length) := Lib.hid fun x hx => hs.mt_lt hx
  have HGr : Hid (∀ W', Below w.heap.size w W' → Calls Tryd.prog 36 #[.agg #[.slice aS S.length cS, .slice aM M.length cM, .int .i64 L]] W' fun e w' => ∃ a c, e = .returned (.slice a (grpOf M S.length).length c) ∧ OwnRows w' W'.heap.size a c ((grpOf M S.length).map nats) ∧ Below W'.heap.size W' w') := Lib.hid fun W' h => graph_any S M L aS aM cS cM W' hv (hS.later h) (hM.later h)
  have HF : Hid (∀ r, r < S.length → ∀ W', Below w.heap.size w W' → Calls Tryd.prog 66 #[.agg #[.slice aS S.length cS, .slice aM M.length cM, .int .i64 L], .int .i64 (r : Int), .slice none 0 0] W' fun e w' => ∃ A C A' C', e = .returned (.tuple #[.slice A' (codeL S M r S.length).length C', .slice A (ordL M r S.length).length C, .int .i64 (-1)]) ∧ Own w' W'.heap.size 3 A C (ints (nats (ordL M r S.length))) ∧ Own w' W'.heap.size 3 A' C' (ints (codeL S M r S.length)) ∧ Below W'.heap.size W' w') := Lib.hid fun r hr W' h => number_first S M L aS aM cS cM r W' hs hr (hS.later h) (hM.later h)
  have HNx : Hid (∀ r, r < S.length → ∀ (B : List Int) aB cB W', Below w.heap.size w W' → IntsAt W' aB B → B.length ≤ cB → B.length = 5 * (ordL M r S.length).length → Calls Tryd.prog 66 #[.agg #[.slice aS S.length cS, .slice aM M.length cM, .int .i64 L], .int .i64 (r : Int), .slice aB B.length cB] W' fun e w' => (0 < cmpL (codeL S M r S.length) B ∧ e = .returned (.tuple #[.slice none 0 0, .slice none 0 0, .int .i64 1]) ∧ Below W'.heap.size W' w') ∨ (cmpL (codeL S M r S.length) B ≤ 0 ∧ ∃ A C A' C', e = .returned (.tuple #[.slice A' (codeL S M r S.length).length C', .slice A (ordL M r S.length).length C, .int .i64 (cmpL (codeL S M r S.length) B)]) ∧ Own w' W'.heap.size 3 A C (ints (nats (ordL M r S.length))) ∧ Own w' W'.heap.size 3 A' C' (ints (codeL S M r S.length)) ∧ Below W'.heap.size W' w')) := Lib.hid fun r hr B aB cB W' h hB hc hl => number_next S M B L aS aM aB cS cM cB r W' hs hr (hS.later h) (hM.later h) hB hc hl
  have HGl : Hid (∀ i, i < (grpOf M S.length).length → 0 < ((grpOf M S.length).getD i []).length ∧ ((grpOf M S.length).getD i []).length ≤ 20 ∧ ∀ r, r ∈ (grpOf M S.length).getD i [] → r < S.length ∧ (ordL M r S.length).length = ((grpOf M S.length).getD i []).length) := Lib.hid fun i hi => by
    have hmem : (grpOf M S.length).getD i [] ∈ grpOf M S.length := by
      rw [List.getD_eq_getElem?_getD, List.getElem?_eq_getElem hi]; exact List.getElem_mem hi
    have hw := grp_whole hm hmem
    have h1 := hw.1.nd.length_le_of_subset (l₂ := List.range S.length) fun c hc => List.mem_range.2 (hw.1.lt c hc)
    rw [List.length_range] at h1
    exact ⟨hw.2, by omega, fun r hr => ⟨hw.1.lt r hr, ordL_len hm HMT.out hmem hr⟩⟩
  have hgl : (grpOf M S.length).length ≤ 20 := Nat.le_trans (grp_len M S.length) h20
  obtain ⟨i0, hi0, hz0, hz1, hz2⟩ := info_parts Tryd.info51
  have Hzc : Hid ((Value.agg #[.slice none 0 0, .slice none 0 0, .int .i64 0]).cells.size = 3) := Lib.hid rfl
  have H0 := Lib.hid ((HH.start w).alloc #[.slice aS S.length cS, .slice aM M.length cM, .int .i64 L] 24 rfl rfl)
  clear hs hm hv hS hM
  generalize grpOf M S.length = gs at *
  generalize hT : gs.map (pieOf S M S.length) = T at *
  have HT := Lib.hid hT
  clear hT
  generalize S.length = n at *
  generalize M.length = N at *
  go_enter Tryd.func44, Tryd.ntmps44
  go_wp2_with fail
  refine (HGr.out _ H0.out.below).mono ?_
  rintro e w2 ⟨aP, cP, rfl, ho, hb⟩
  have H2 := Lib.hid ((H0.out.call hb).addNil 51)
  have HO := Lib.hid ho
  clear hb ho HGr
  generalize (w.alloc (.cells #[.slice aS n cS, .slice aM N cM, .int .i64 L] 24)).heap.size = q at *
  go_wp2_with fail
  go_loopg [15, 3] gs.length (fun g v s3 wr => ∃ (i : Nat) (A : Option Addr) (C : Nat) (vs : List Value), i ≤ gs.length ∧ g = gs.length - i ∧ v = .int .i64 i ∧ s3 = .slice A i C ∧ i ≤ C ∧ OwnRows wr q aP cP (gs.map nats) ∧ CellsOf wr w.heap.size vs (T.take i) ∧ vs.length = i * 3 ∧ HH w wr [(w.heap.size, rowO 24 [.slice aS n cS, .slice aM N cM, .int .i64 L])] [⟨A, C * 3, 51, vs⟩])
  case atStart => exact ⟨0, none, 0, [], Nat.zero_le _, rfl, rfl, rfl, Nat.le_refl _, HO.out, CellsOf.nil _ _, rfl, H2.out⟩
  case round =>
    obtain ⟨i, A, C, vs, hi, rfl, rfl, rfl, hiC, ho, hc, hvl, hh⟩ := hrel
    replace HO := Lib.hid ho
    have HCl := Lib.hid hc
    have Hh := Lib.hid hh
    have Hvl := Lib.hid hvl
    clear ho hc hh H2 hvl
    by_cases hil : i < gs.length
    · obtain ⟨b1, o1, rfl, _, _, hrow⟩ := HO.out.open (by rw [List.length_map]; omega)
      obtain ⟨a', c', hci, hro⟩ := hrow i (nats (gs.getD i [])) (by rw [List.getElem?_map, getD_some (d := []) hil]; rfl)
      rw [nats_length] at hci
      have HG := Lib.hid (HGl.out i hil)
      have hg1 : 0 < (gs.getD i []).length := HG.out.1
      have hg2 : (gs.getD i []).length ≤ 20 := HG.out.2.1
      have HTi : Hid (T.take (i + 1) = T.take i ++ [pieOf S M n (gs.getD i [])]) := Lib.hid (by
        rw [List.take_add_one, ← HT.out, List.getElem?_map, getD_some (d := []) hil]; rfl)
      have HTr : Hid (TI wr w.heap.size a' (nats (gs.getD i []))) := Lib.hid (TI.own hro)
      generalize gs.getD i [] = Gi at *
      clear hrow hro
      have H3 := Lib.hid (Hh.out.alloc #[.slice none 0 0, .slice none 0 0, .int .i64 0] 51 (b := wr.heap.size) rfl rfl)
      have HX := Lib.hid (And.intro (HO.out.later ((Below.refl _ _).alloc (Nat.le_refl _) (.cells #[.slice none 0 0, .slice none 0 0, .int .i64 0] 51)) (Nat.le_refl _)) (And.intro (HCl.out.later ((Below.refl _ _).alloc (Nat.le_refl _) (.cells #[.slice none 0 0, .slice none 0 0, .int .i64 0] 51))) (HTr.out.later ((Below.refl _ _).alloc (Nat.le_refl _) (.cells #[.slice none 0 0, .slice none 0 0, .int .i64 0] 51)))))
      go_wp2_with fail
      clear Hh HO HCl HTr
      generalize wr.alloc (.cells #[.slice none 0 0, .slice none 0 0, .int .i64 0] 51) = v1 at *
      generalize wr.heap.size = bx at *
      go_loopg [21] Gi.length (fun g v ws => ∃ (k : Nat) (p : Dgm) (a b : Option Addr) (cA cB : Nat), k ≤ Gi.length ∧ g = Gi.length - k ∧ v = .int .i64 k ∧ Hid ((k = 0 → a = none ∧ cA = 0 ∧ p = ([], [], 0)) ∧ (0 < k → p.1.length = 5 * Gi.length ∧ p.1 ≠ [] ∧ p.1.length ≤ cA) ∧ p = (Gi.take k).foldl (pieStep S M n) ([], [], 0)) ∧ 0 ≤ p.2.2 ∧ p.2.2 ≤ (k : Int) ∧ Hid (TI ws w.heap.size a p.1 ∧ TI ws w.heap.size b p.2.1 ∧ TI ws w.heap.size a' (nats Gi) ∧ OwnRows ws q (some ⟨b1, o1, none⟩) cP (gs.map nats) ∧ CellsOf ws w.heap.size vs (T.take i)) ∧ HH w ws [(w.heap.size, rowO 24 [.slice aS n cS, .slice aM N cM, .int .i64 L]), (bx, rowO 51 [.slice a p.1.length cA, .slice b p.2.1.length cB, .int .i64 p.2.2])] [⟨A, C * 3, 51, vs⟩])
      case atStart => exact ⟨0, ([], [], 0), none, none, 0, 0, Nat.zero_le _, rfl, rfl, Lib.hid ⟨fun _ => ⟨rfl, rfl, rfl⟩, fun h => absurd h (Nat.lt_irrefl 0), rfl⟩, Int.le_refl _, Int.le_refl _, Lib.hid ⟨TI.nil _ _, TI.nil _ _, HX.out.2.2, HX.out.1, HX.out.2.1⟩, H3.out⟩
      case round =>
        obtain ⟨k, p, a, b, cA, cB, hk, rfl, rfl, HP, hp0, hpk, HR, hh⟩ := hrel
        have Hz := Lib.hid hh
        clear hh H3 HX
        by_cases hkl : k < Gi.length
        · obtain ⟨b9, o9, hb9, _, hc9⟩ := (HR.out.2.2.1).at.open (by rw [nats_length]; omega)
          subst hb9
          obtain ⟨r, hr⟩ : ∃ r : Nat, r = Gi.getD k 0 := ⟨_, rfl⟩
          have hrm : r ∈ Gi := by rw [hr]; exact getD_mem hkl
          have c9 : wr.cell? ⟨b9, o9 + k, none⟩ = some (.int .i64 (r : Int)) := by rw [hc9 k (by rw [nats_length]; exact hkl), nats_at Gi hkl, hr]
          have HG1 := Lib.hid (HG.out.2.2 r hrm)
          have HTk : Hid ((Gi.take (k + 1)).foldl (pieStep S M n) ([], [], 0) = pieStep S M n p r) := Lib.hid (by
            rw [List.take_add_one, List.foldl_append, ← HP.out.2.2, hr, List.getD_eq_getElem?_getD, List.getElem?_eq_getElem hkl]; rfl)
          have HX1 : Hid ((codeL S M r n).length = 5 * Gi.length ∧ codeL S M r n ≠ []) := Lib.hid ⟨by rw [codeL_len, HG1.out.2], codeL_ne _ _ _ _⟩
          have HF1 := Lib.hid (HF.out r HG1.out.1)
          have HN1 := Lib.hid (HNx.out r HG1.out.1)
          have hz1 := Hz.out.cell (k := 0) (i := 0) rfl rfl
          have hz2 := Hz.out.cell (k := 0) (i := 1) rfl rfl
          have hz3 := Hz.out.cell (k := 0) (i := 2) rfl rfl
          clear hc9 hr hrm
          have HO1 : Hid ((ordL M r n).length = Gi.length) := Lib.hid HG1.out.2
          have HS1 : Hid (∀ p : Dgm, pieStep S M n p r = if p.1 = [] then (codeL S M r n, nats (ordL M r n), 1) else if cmpL (codeL S M r n) p.1 < 0 then (codeL S M r n, nats (ordL M r n), 1) else if cmpL (codeL S M r n) p.1 = 0 then (p.1, p.2.1, p.2.2 + 1) else p) := Lib.hid fun p => rfl
          clear HG1
          generalize codeL S M r n = X at *
          generalize ordL M r n = O at *
          by_cases hk0 : k = 0
          · obtain ⟨rfl, rfl, rfl⟩ := HP.out.1 hk0
            subst hk0
            rw [Nat.add_zero] at c9
            have hy1 : wr.cell? ⟨bx, 0, none⟩ = some (.slice none 0 0) := Hz.out.cell (k := 1) (i := 0) rfl rfl
            go_wp2_with fail
            clear hz1 hz2 hz3 hy1
            refine (HF1.out _ Hz.out.below).mono ?_
            rintro e w5 ⟨A5, C5, A6, C6, rfl, ho1, ho2, hb⟩
            have H5 := Lib.hid (Hz.out.call hb)
            have HO5 := Lib.hid (And.intro ho1 ho2)
            have HR5 := Lib.hid (And.intro (HR.out.2.2.1.later hb) (And.intro (HR.out.2.2.2.1.later hb (Nat.le_refl _)) (HR.out.2.2.2.2.later hb)))
            clear ho1 ho2 hb HR
            have f0 := H5.out.frozen (k := 1) rfl 0
            have f1 := H5.out.frozen (k := 1) rfl 1
            have f2 := H5.out.frozen (k := 1) rfl 2
            have y0 : w5.cell? ⟨bx, 0, none⟩ = some (.slice none 0 0) := H5.out.cell (k := 1) (i := 0) rfl rfl
            have y1 : w5.cell? ⟨bx, 1, none⟩ = some (.slice b 0 cB) := H5.out.cell (k := 1) (i := 1) rfl rfl
            have y2 : w5.cell? ⟨bx, 2, none⟩ = some (.int .i64 0) := H5.out.cell (k := 1) (i := 2) rfl rfl
            go_wp2_with fail
            have P := Lib.hid (H5.out.put3 (.slice A6 X.length C6) (.slice A5 O.length C5) (.int .i64 1))
            go_roundg (Gi.length - (0 + 1))
            case measure => omega
            case rel =>
              refine ⟨0 + 1, (X, nats O, 1), A6, A5, C6, C5, by omega, rfl, by go_num, Lib.hid ⟨fun h => absurd h (by omega), fun _ => ⟨HX1.out.1, HX1.out.2, by have := HO5.out.2.cap; rwa [ints_length] at this⟩, by rw [HTk.out, HS1.out]; rfl⟩, (show (0 : Int) ≤ 1 by decide), (show (1 : Int) ≤ ((0 + 1 : Nat) : Int) by decide), Lib.hid ⟨P.out.2.1 _ _ _ (Nat.le_refl _) (TI.own HO5.out.2), P.out.2.1 _ _ _ (Nat.le_refl _) (TI.own HO5.out.1), P.out.2.1 _ _ _ (Nat.le_refl _) HR5.out.1, P.out.2.2.2 _ _ _ _ HR5.out.2.1, P.out.2.2.1 _ _ _ (Nat.le_refl _) HR5.out.2.2⟩, ?_⟩
              show HH w _ [_, (bx, rowO 51 [.slice A6 X.length C6, .slice A5 (nats O).length C5, .int .i64 1])] _
              rw [nats_length]
              exact P.out.1
          · obtain ⟨pc, po, pr⟩ := p
            have HQ := Lib.hid (HP.out.2.1 (by omega))
            dsimp only at *
            have hy1 := Hz.out.cell (k := 1) (i := 0) rfl rfl
            go_wp2_with fail
            clear hz1 hz2 hz3 hy1
            refine (HN1.out pc a cA _ Hz.out.below HR.out.1.at HQ.out.2.2 (by rw [HO1.out]; exact HQ.out.1)).mono ?_
            rintro e w5 (⟨hgt, rfl, hb⟩ | ⟨hle, A5, C5, A6, C6, rfl, ho1, ho2, hb⟩)
            · have H5 := Lib.hid (Hz.out.call hb)
              have HR5 := Lib.hid (And.intro (HR.out.1.later hb) (And.intro (HR.out.2.1.later hb) (And.intro (HR.out.2.2.1.later hb) (And.intro (HR.out.2.2.2.1.later hb (Nat.le_refl _)) (HR.out.2.2.2.2.later hb)))))
              have HE : Hid (pieStep S M n (pc, po, pr) r = (pc, po, pr)) := Lib.hid (by rw [HS1.out, if_neg HQ.out.2.1, if_neg (by show ¬ cmpL X pc < 0; omega), if_neg (by show ¬ cmpL X pc = 0; omega)])
              clear hb HR hgt
              go_wp2_with fail
              go_roundg (Gi.length - (k + 1))
              case measure => omega
              case rel =>
                exact ⟨k + 1, (pc, po, pr), a, b, cA, cB, by omega, rfl, by go_num, Lib.hid ⟨fun h => absurd h (by omega), fun _ => HQ.out, by rw [HTk.out, HE.out]⟩, hp0, (show pr ≤ ((k + 1 : Nat) : Int) by omega), HR5, H5.out⟩
            · have H5 := Lib.hid (Hz.out.call hb)
              have HO5 := Lib.hid (And.intro ho1 ho2)
              have HR5 := Lib.hid (And.intro (HR.out.1.later hb) (And.intro (HR.out.2.1.later hb) (And.intro (HR.out.2.2.1.later hb) (And.intro (HR.out.2.2.2.1.later hb (Nat.le_refl _)) (HR.out.2.2.2.2.later hb)))))
              clear ho1 ho2 hb HR
              have f0 := H5.out.frozen (k := 1) rfl 0
              have f1 := H5.out.frozen (k := 1) rfl 1
              have f2 := H5.out.frozen (k := 1) rfl 2
              have y0 := H5.out.cell (k := 1) (i := 0) rfl rfl
              have y1 := H5.out.cell (k := 1) (i := 1) rfl rfl
              have y2 := H5.out.cell (k := 1) (i := 2) rfl rfl
              rcases cmpL_vals X pc with hv | hv | hv
              · have HE : Hid (pieStep S M n (pc, po, pr) r = (X, nats O, 1)) := Lib.hid (by rw [HS1.out, if_neg HQ.out.2.1, if_pos (by show cmpL X pc < 0; omega)])
                rw [hv]
                clear hv hle
                go_wp2_with fail
                have P := Lib.hid (H5.out.put3 (.slice A6 X.length C6) (.slice A5 O.length C5) (.int .i64 1))
                go_roundg (Gi.length - (k + 1))
                case measure => omega
                case rel =>
                  refine ⟨k + 1, (X, nats O, 1), A6, A5, C6, C5, by omega, rfl, by go_num, Lib.hid ⟨fun h => absurd h (by omega), fun _ => ⟨HX1.out.1, HX1.out.2, by have := HO5.out.2.cap; rwa [ints_length] at this⟩, by rw [HTk.out, HE.out]⟩, (show (0 : Int) ≤ 1 by decide), (show (1 : Int) ≤ ((k + 1 : Nat) : Int) by omega), Lib.hid ⟨P.out.2.1 _ _ _ (Nat.le_refl _) (TI.own HO5.out.2), P.out.2.1 _ _ _ (Nat.le_refl _) (TI.own HO5.out.1), P.out.2.1 _ _ _ (Nat.le_refl _) HR5.out.2.2.1, P.out.2.2.2 _ _ _ _ HR5.out.2.2.2.1, P.out.2.2.1 _ _ _ (Nat.le_refl _) HR5.out.2.2.2.2⟩, ?_⟩
                  show HH w _ [_, (bx, rowO 51 [.slice A6 X.length C6, .slice A5 (nats O).length C5, .int .i64 1])] _
                  rw [nats_length]
                  exact P.out.1
              · have HE : Hid (pieStep S M n (pc, po, pr) r = (pc, po, pr + 1)) := Lib.hid (by rw [HS1.out, if_neg HQ.out.2.1, if_neg (by show ¬ cmpL X pc < 0; omega), if_pos (by show cmpL X pc = 0; omega)])
                rw [hv]
                clear hv hle
                have wr1 : IntKind.i64.wrap (pr + 1) = pr + 1 := wrapi_mid (by omega) (by omega)
                go_wp2_with fail
                have P := Lib.hid (H5.out.put1 2 (.int .i64 (pr + 1)))
                go_roundg (Gi.length - (k + 1))
                case measure => omega
                case rel =>
                  exact ⟨k + 1, (pc, po, pr + 1), a, b, cA, cB, by omega, rfl, by go_num, Lib.hid ⟨fun h => absurd h (by omega), fun _ => HQ.out, by rw [HTk.out, HE.out]⟩, (show (0 : Int) ≤ pr + 1 by omega), (show pr + 1 ≤ ((k + 1 : Nat) : Int) by omega), Lib.hid ⟨P.out.2.1 _ _ _ (Nat.le_refl _) HR5.out.1, P.out.2.1 _ _ _ (Nat.le_refl _) HR5.out.2.1, P.out.2.1 _ _ _ (Nat.le_refl _) HR5.out.2.2.1, P.out.2.2.2 _ _ _ _ HR5.out.2.2.2.1, P.out.2.2.1 _ _ _ (Nat.le_refl _) HR5.out.2.2.2.2⟩, P.out.1⟩
              · omega
        · obtain rfl : k = Gi.length := by omega
          have HE : Hid (T.take (i + 1) = T.take i ++ [p]) := Lib.hid (by rw [HTi.out, HP.out.2.2, List.take_length]; rfl)
          clear HP HTi
          obtain ⟨pc, po, pr⟩ := p
          dsimp only at *
          have HC3 : Hid (CellsOf wr w.heap.size (vs ++ [.slice a pc.length cA, .slice b po.length cB, .int .i64 pr]) (T.take (i + 1))) := Lib.hid (by
            rw [HE.out]
            exact HR.out.2.2.2.2.append (CellsOf.one HR.out.1 HR.out.2.1))
          have HO3 := Lib.hid HR.out.2.2.2.1
          clear HR HE
          generalize pc.length = l1 at *
          generalize po.length = l2 at *
          have y0 := Hz.out.cell (k := 1) (i := 0) rfl rfl
          have y1 := Hz.out.cell (k := 1) (i := 1) rfl rfl
          have y2 := Hz.out.cell (k := 1) (i := 2) rfl rfl
          have Ha := Lib.hid (Hz.out.call ((Below.refl _ _).alloc (Nat.le_refl _) (.cells #[.slice a l1 cA, .slice b l2 cB, .int .i64 pr] 51)))
          have Hus : Hid (VAt (wr.alloc (.cells #[.slice a l1 cA, .slice b l2 cB, .int .i64 pr] 51)) (some ⟨wr.heap.size, 0, none⟩) [.slice a l1 cA, .slice b l2 cB, .int .i64 pr]) := Lib.hid (Row.new wr #[.slice a l1 cA, .slice b l2 cB, .int .i64 pr] 51).at
          have Hu1 : Hid (∀ u ∈ ([.slice a l1 cA, .slice b l2 cB, .int .i64 pr] : List Value), u.oneCell' = true) := Lib.hid (by
            intro u hu
            simp only [List.mem_cons, List.not_mem_nil, or_false] at hu
            rcases hu with rfl | rfl | rfl <;> rfl)
          have Hl1 := Lib.hid Ha.out.below.size
          have Hum : Hid (([.slice a l1 cA, .slice b l2 cB, .int .i64 pr] : List Value).length = 1 * 3) := Lib.hid rfl
          go_wp2_with (with_reducible refine wpList_append_wide rfl (.tmp 48) (.tmp 50) 48 48 rfl w.heap.size 51 i0 _ 56 3 Tryd.underlying48 Tryd.underlying48 hi0 hz0 hz1 (by decide) hz2 Hzc.out A i C vs rfl Hvl.out hiC (Ha.out.sl (k := 0) rfl) (some ⟨wr.heap.size, 0, none⟩) 1 1 [.slice a l1 cA, .slice b l2 cB, .int .i64 pr] rfl Hum.out Hus.out Hu1.out (by omega) (by omega) Hl1.out ?_; intro A7 e7 w7 hle hO7 hT7 hA7; have HO7a := Lib.hid hO7; have HT7a := Lib.hid hT7; have HA7a := Lib.hid hA7; clear hO7 hT7 hA7)
          have H7 := Lib.hid (Ha.out.grow (k := 0) rfl HO7a.out HT7a.out HA7a.out)
          have HO7 := Lib.hid ((HO3.out.later ((Below.refl _ _).alloc (Nat.le_refl _) _) (Nat.le_refl _)).turned (Ha.out.sl (k := 0) rfl) (show (51 : TypeId) ≠ 3 from by decide) (show (51 : TypeId) ≠ 22 from by decide) HT7a.out)
          have HC7 : Hid (CellsOf w7 w.heap.size (vs ++ [.slice a l1 cA, .slice b l2 cB, .int .i64 pr]) (T.take (i + 1))) := Lib.hid ((HC3.out.later ((Below.refl _ _).alloc (Nat.le_refl _) _)).turned (show (51 : TypeId) ≠ 3 from by decide) (Nat.le_refl _) (Ha.out.sl (k := 0) rfl) HT7a.out)
          go_roundg (gs.length - (i + 1))
          case measure => omega
          case rel =>
            refine ⟨i + 1, A7, e7, _, by omega, rfl, by go_num, rfl, hle, HO7.out, HC7.out, ?_, H7.out.forgetK (List.Sublist.cons_cons _ (List.nil_sublist _))⟩
            rw [List.length_append, Hvl.out]; show i * 3 + 3 = (i + 1) * 3; omega
    · obtain rfl : i = gs.length := by omega
      have HTl : Hid (T.length = gs.length) := Lib.hid (by rw [← HT.out, List.length_map])
      have HC0 : Hid (CellsOf wr w.heap.size vs T) := Lib.hid (by
        have g := HCl.out
        rwa [List.take_of_length_le (by rw [HTl.out]; exact Nat.le_refl _)] at g)
      have Hbd : Hid (∀ d, d ∈ T → d.1.length ≤ 1000000 ∧ d.2.1.length ≤ 1000000) := Lib.hid fun d hd => by
        rw [← HT.out] at hd
        obtain ⟨G, hG, rfl⟩ := List.mem_map.1 hd
        obtain ⟨j, hj, e⟩ := List.mem_iff_getElem.1 hG
        have g := HGl.out j hj
        rw [List.getD_eq_getElem?_getD, List.getElem?_eq_getElem hj, Option.getD_some, e] at g
        have hp := pie_is S M n g.1
        obtain ⟨r, hr, e1, e2⟩ := hp.at_
        have := g.2.2 r hr
        rw [e1, e2, codeL_len, nats_length]; omega
      clear HCl HO HGl HF HNx
      by_cases h0 : gs.length = 0
      · have HS0 : Hid (∀ W, Calls Tryd.prog 67 #[.slice A 0 C, .func (.func 68) #[] #[]] W fun e w' => e = .returned (.tuple #[]) ∧ w' = W) := Lib.hid fun W => sstable_none A C W
        go_wp2_with fail
        refine (HS0.out _).mono ?_
        rintro e w8 ⟨rfl, hw8⟩
        subst hw8
        go_wp2_with fail
        go_ret
        have hT0 : T = [] := List.eq_nil_of_length_eq_zero (by rw [HTl.out]; exact h0)
        subst hT0
        exact ⟨A, C, [], vs, rfl, ⟨List.Perm.refl _, fun p q h1 h2 => absurd h2 (Nat.not_lt_zero _)⟩, Hh.out.sl (k := 0) rfl, HC0.out, Hh.out.below⟩
      · have ho : Own wr w.heap.size 51 A (C * 3) vs := Hh.out.sl (k := 0) rfl
        obtain ⟨b, off, rfl, hB, _⟩ := Own.open ho (by have := Hvl.out; omega)
        have HP0 : Hid (PSt w.heap.size wr b off C wr T) := Lib.hid ⟨hB, ⟨rfl, rfl, rfl, Nat.le_refl _, fun _ _ _ => rfl⟩, vs, ho.tight, HC0.out⟩
        have HS1 : Hid (Calls Tryd.prog 67 #[.slice (some ⟨b, off, none⟩) gs.length C, .func (.func 68) #[] #[]] wr fun e w' => e = .returned (.tuple #[]) ∧ ∃ ys, SrtTo T ys T.length ∧ PSt w.heap.size wr b off C w' ys) := Lib.hid (by
          rw [← HTl.out]
          exact sstable_any w.heap.size b off C T wr Hbd.out (by rw [HTl.out]; omega) (by rw [HTl.out]; exact hgl) HP0.out)
        clear ho
        go_wp2_with fail
        refine HS1.out.mono ?_
        rintro e w8 ⟨rfl, ys, hsr, hps⟩
        have HY := Lib.hid (And.intro hsr hps)
        clear hsr hps
        go_wp2_with fail
        go_ret
        obtain ⟨vs8, h8, h9⟩ := HY.out.2.cells
        have hl8 : ys.length = gs.length := by rw [HY.out.1.perm.length_eq]; exact HTl.out
        exact ⟨some ⟨b, off, none⟩, C, ys, vs8, by rw [hl8]; rfl, by rw [HY.out.1.perm.length_eq]; exact HY.out.1, h8.mono hB, h9, Hh.out.below.trans ((HY.out.2.turned.below (B := w.heap.size) Hh.out.below.size fun x hx => by cases hx; exact hB))⟩
end Go.Proofs.YtmhhjchnjaefhaaDoor


