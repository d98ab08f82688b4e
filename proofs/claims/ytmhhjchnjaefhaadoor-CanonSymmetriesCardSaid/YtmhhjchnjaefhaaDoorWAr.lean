/- Plain: the reference's roots: one crossing for each piece, in the order of the code. Plain: the number of orders that renumber a diagram into itself. -/
import Derived.WalkKit
import Derived.WalkSpells
import Derived.WalkLawsBesides
import Derived.Deep.AppendSrc
import Derived.Deep.LoopGhost
import Derived.Deep.QuietTactic
import Derived.Deep.RegionWith
import Derived.Deep.DeepMust
import Derived.Deep.DeepFit
import Derived.BigQuiet
import Derived.Lib.Hide
import Derived.Outline
import Derived.Test.YtmhhjchnjaefhaaDoorProg
import Derived.Deep.Matrix
import Derived.Deep.DeepCutAuto
import Derived.Deep.RegionLaw
import Derived.Deep.RegionHeld3
import Derived.Lib.SliceRun
import Derived.Shelf.Strings.Builder1
import Derived.Shelf.Small.Wraps
import Derived.Shelf.Strings.BuilderF
import Derived.Shelf.Strings.BuilderK
import Derived.Shelf.Strconv.Itoa0
import Derived.Shelf.Strconv.Itoa1
import Derived.Shelf.LaysM
import Derived.Shelf.Strconv.Itoa2
import Derived.Shelf.Strconv.Itoa3
import Derived.Shelf.Slices.Equal
import Derived.Ground.Names2Prog
import Derived.Shelf.Slices.Clone
import Derived.Shelf.Slices.SearchI
import Derived.Shelf.Slices.Empties2
import Derived.Ground.SlgnProg
import Derived.Shelf.SlicesE.Clone
import Derived.Sort.OwnSortedInts
import Derived.Shelf.Small.Bits
import Derived.Shelf.Sort.Plain
import Derived.Shelf.Slices.Turned
import Derived.Shelf.Slices.CompactI
import Derived.Shelf.Slices.Cells
import Derived.Shelf.Slices.In.SortNone
import Derived.Lib.AppendZeros
import Derived.Deep.RegionHeld
import Derived.Lib.Builder
import Derived.Lib.AppendStr
import Derived.Lib.Walk
import Derived.Laws.Externs
import Derived.Lib.AppendIntMem
import Derived.Test.YtmhhjchnjaefhaaDoorWAa
import Derived.Test.YtmhhjchnjaefhaaDoorWAb
import Derived.Test.YtmhhjchnjaefhaaDoorWAc
import Derived.Test.YtmhhjchnjaefhaaDoorWAd
import Derived.Test.YtmhhjchnjaefhaaDoorWAe
import Derived.Test.YtmhhjchnjaefhaaDoorWAf
import Derived.Test.YtmhhjchnjaefhaaDoorWAg
import Derived.Test.YtmhhjchnjaefhaaDoorWAh
import Derived.Test.YtmhhjchnjaefhaaDoorWAi
import Derived.Test.YtmhhjchnjaefhaaDoorWAj
import Derived.Test.YtmhhjchnjaefhaaDoorWAk
import Derived.Test.YtmhhjchnjaefhaaDoorWAl
import Derived.Test.YtmhhjchnjaefhaaDoorWAm
import Derived.Test.YtmhhjchnjaefhaaDoorWAn
import Derived.Test.YtmhhjchnjaefhaaDoorWAo
import Derived.Test.YtmhhjchnjaefhaaDoorWAp
import Derived.Test.YtmhhjchnjaefhaaDoorWAq
namespace Go.Proofs.YtmhhjchnjaefhaaDoor
open Go Go.RowKit
/-- The reference's Less. -/
def lessB (a b : List Int) : Bool := if a.length = b.length then decide (cmpL a b < 0) else decide (a.length < b.length)
theorem lessB_no {a b : List Int} : lessB a b = false ↔ slx b a = true := by
  unfold lessB slx
  by_cases h : a.length = b.length
  · rw [if_pos h, if_pos h.symm, decide_eq_false_iff_not, decide_eq_true_eq, cmpL_swap a b]
    constructor <;> intro g <;> omega
  · rw [if_neg h, if_neg (fun e => h e.symm), decide_eq_false_iff_not, decide_eq_true_eq]
    constructor <;> intro g <;> omega
theorem lessB_yes {a b : List Int} (h : lessB a b = true) : slx a b = true := by
  unfold lessB at h
  unfold slx
  by_cases g : a.length = b.length
  · rw [if_pos g, decide_eq_true_eq] at h
    rw [if_pos g, decide_eq_true_eq]; omega
  · rw [if_neg g, decide_eq_true_eq] at h
    rw [if_neg g, decide_eq_true_eq]; omega
def bstStep (S M : List Int) (n b r : Nat) : Nat := if lessB (codeL S M r n) (codeL S M b n) = true then r else b
/-- The first crossing with the least code of the first k. -/
def bstTo (S M : List Int) (n : Nat) (G : List Nat) (k : Nat) : Nat := (G.take k).foldl (bstStep S M n) (G.getD 0 0)
def bstOf (S M : List Int) (n : Nat) (G : List Nat) : Nat := bstTo S M n G G.length
theorem bstTo_succ {S M : List Int} {n : Nat} {G : List Nat} {k : Nat} (h : k < G.length) : bstTo S M n G (k + 1) = bstStep S M n (bstTo S M n G k) (G.getD k 0) := by
  unfold bstTo
  rw [List.take_add_one, getD_some (d := 0) h, Option.toList_some, List.foldl_append]; rfl
theorem bstTo_in {S M : List Int} {n : Nat} {G : List Nat} (h : 0 < G.length) : ∀ k, k ≤ G.length → bstTo S M n G k ∈ G
  | 0, _ => by unfold bstTo; rw [List.take_zero]; exact getD_mem h
  | k + 1, hk => by
    rw [bstTo_succ (by omega)]
    unfold bstStep
    split
    · exact getD_mem (by omega)
    · exact bstTo_in h k (by omega)
theorem slx_refl (a : List Int) : slx a a = true := by
  unfold slx
  rw [if_pos rfl, decide_eq_true_eq, cmpL_zero.2 rfl]; exact Int.le_refl _
theorem bstTo_le {S M : List Int} {n : Nat} {G : List Nat} : ∀ k, k ≤ G.length → ∀ j, j < k → slx (codeL S M (bstTo S M n G k) n) (codeL S M (G.getD j 0) n) = true
  | 0, _, j, h => absurd h (Nat.not_lt_zero j)
  | k + 1, hk, j, hj => by
    rw [bstTo_succ (by omega)]
    unfold bstStep
    split
    · rename_i g
      rcases Nat.lt_or_ge j k with h | h
      · exact slx_trans _ _ _ (lessB_yes g) (bstTo_le k (by omega) j h)
      · obtain rfl : j = k := by omega
        exact slx_refl _
    · rename_i g
      rcases Nat.lt_or_ge j k with h | h
      · exact bstTo_le k (by omega) j h
      · obtain rfl : j = k := by omega
        exact lessB_no.1 (by simpa using g)
theorem bst_in {S M : List Int} {n : Nat} {G : List Nat} (h : 0 < G.length) : bstOf S M n G ∈ G := bstTo_in h _ (Nat.le_refl _)
theorem bst_code {S M : List Int} {n : Nat} (hmo : MateOk M n) (hm : ∀ x, x < 4 * n → mt M x < 4 * n) {G : List Nat} (hG : G ∈ grpOf M n) : codeL S M (bstOf S M n G) n = (pieOf S M n G).1 := by
  have hw := grp_whole hmo hG
  obtain ⟨r, hr, e1, _⟩ := (pie_is S M n hw.2).at_
  have hle := (pie_is S M n hw.2).le (bstOf S M n G) (bst_in hw.2)
  have hl : ∀ x, x ∈ G → (codeL S M x n).length = 5 * G.length := fun x hx => by rw [codeL_len, ordL_len hmo hm hG hx]
  obtain ⟨j, hj, ej⟩ := List.mem_iff_getElem.1 hr
  have hb : slx (codeL S M (bstOf S M n G) n) (codeL S M (G.getD j 0) n) = true := bstTo_le G.length (Nat.le_refl _) j hj
  rw [List.getD_eq_getElem?_getD, List.getElem?_eq_getElem hj, ej, Option.getD_some, ← e1] at hb
  refine slx_anti hb ?_
  unfold slx
  rw [if_pos (by rw [e1, hl _ hr, hl _ (bst_in hw.2)]), decide_eq_true_eq]
  exact hle
/-- The roots after k groups. -/
structure Rts (S M : List Int) (n k : Nat) (rs : List Nat) : Prop where
  perm : rs.Perm (((grpOf M n).take k).map (bstOf S M n))
  srt : rs.Pairwise fun a b => slx (codeL S M a n) (codeL S M b n) = true
theorem Rts.zero (S M : List Int) (n : Nat) : Rts S M n 0 [] := ⟨by rw [List.take_zero]; exact List.Perm.refl _, List.Pairwise.nil⟩
theorem Rts.next {S M : List Int} {n k : Nat} {rs : List Nat} (h : Rts S M n k rs) (hk : k < (grpOf M n).length) {p : Nat} (hp : p ≤ rs.length)
    (h1 : p = 0 ∨ lessB (codeL S M (bstOf S M n ((grpOf M n).getD k [])) n) (codeL S M (rs.getD (p - 1) 0) n) = false)
    (h2 : ∀ i, p ≤ i → i < rs.length → lessB (codeL S M (bstOf S M n ((grpOf M n).getD k [])) n) (codeL S M (rs.getD i 0) n) = true) :
    Rts S M n (k + 1) (rs.take p ++ bstOf S M n ((grpOf M n).getD k []) :: rs.drop p) := by
  generalize hb : bstOf S M n ((grpOf M n).getD k []) = b at *
  have hs : rs = rs.take p ++ rs.drop p := (List.take_append_drop p rs).symm
  have hsrt := h.srt
  rw [hs, List.pairwise_append] at hsrt
  refine ⟨?_, ?_⟩
  · refine List.perm_middle.trans ?_
    rw [List.take_append_drop, List.take_add_one, getD_some (d := []) hk, Option.toList_some, List.map_append, List.map_singleton, hb]
    exact (h.perm.cons b).trans (List.perm_append_singleton _ _).symm
  · rw [List.pairwise_append]
    refine ⟨hsrt.1, ?_, fun x hx y hy => ?_⟩
    · rw [List.pairwise_cons]
      refine ⟨fun y hy => ?_, hsrt.2.1⟩
      obtain ⟨i, hi, e⟩ := List.mem_iff_getElem.1 hy
      rw [List.length_drop] at hi
      rw [List.getElem_drop] at e
      have := h2 (p + i) (by omega) (by omega)
      rw [List.getD_eq_getElem?_getD, List.getElem?_eq_getElem (by omega), Option.getD_some, e] at this
      exact lessB_yes this
    · rcases List.mem_cons.1 hy with rfl | hy
      · obtain ⟨i, hi, e⟩ := List.mem_iff_getElem.1 hx
        rw [List.length_take] at hi
        rw [List.getElem_take] at e
        rcases h1 with h1 | h1
        · omega
        · have h1 := lessB_no.1 h1
          rw [List.getD_eq_getElem?_getD, List.getElem?_eq_getElem (by omega), Option.getD_some] at h1
          rcases Nat.lt_or_ge i (p - 1) with g | g
          · have h3 := List.pairwise_iff_getElem.1 h.srt i (p - 1) (by omega) (by omega) g
            rw [e] at h3
            exact slx_trans _ _ _ h3 h1
          · have e2 : i = p - 1 := by omega
            subst e2
            rw [e] at h1
            exact h1
      · exact hsrt.2.2 x hx y hy
section
variable {S M : List Int} {n : Nat} (hmo : MateOk M n) (hm : ∀ x, x < 4 * n → mt M x < 4 * n) {rs : List Nat} (h : Rts S M n (grpOf M n).length rs)
include hmo hm h
theorem rts_codes : rs.map (fun r => codeL S M r n) = codesL S M n := by
  have hp := h.perm
  rw [List.take_of_length_le (Nat.le_refl _)] at hp
  refine srtC_uniq ?_ (by rw [List.pairwise_map]; exact h.srt)
  refine (hp.map _).trans (List.Perm.of_eq ?_)
  unfold pinf
  rw [List.map_map, List.map_map]
  refine List.map_congr_left fun G hG => ?_
  exact bst_code hmo hm hG
theorem rts_of {r : Nat} (hr : r ∈ rs) : ∃ G, G ∈ grpOf M n ∧ r = bstOf S M n G ∧ r ∈ G ∧ r < n := by
  have _ := hm
  have hp := h.perm
  rw [List.take_of_length_le (Nat.le_refl _)] at hp
  obtain ⟨G, hG, rfl⟩ := List.mem_map.1 (hp.mem_iff.1 hr)
  have hw := grp_whole hmo hG
  exact ⟨G, hG, rfl, bst_in hw.2, hw.1.lt _ (bst_in hw.2)⟩
theorem rts_form {L : Int} (_ : Shape S M L) (hn : n = S.length) : (rs.flatMap fun r => ordL M r n).Perm (List.range n) ∧ partS S (rs.flatMap fun r => ordL M r n) = fmS S M ∧ partM M (rs.flatMap fun r => ordL M r n) = fmM S M := by
  have hp := h.perm
  rw [List.take_of_length_le (Nat.le_refl _)] at hp
  have hw1 : ∀ r, r ∈ rs → Whole M n (ordL M r n) := fun r hr => by
    obtain ⟨G, hG, _, hrG, _⟩ := rts_of hmo hm h hr
    have hw := grp_whole hmo hG
    have hp := ordL_perm hmo hm hG hrG
    exact ⟨fun c hc => hw.1.lt c (hp.mem_iff.1 hc), hp.nodup_iff.2 hw.1.nd, fun c hc d hcd => hp.mem_iff.2 (hw.1.cl c (hp.mem_iff.1 hc) d hcd)⟩
  have hap : (rs.map fun r => ((codeL S M r n, nats (ordL M r n), 1) : Dgm)).Pairwise Apart := by
    rw [List.pairwise_map]
    have hb : ((grpOf M n).map (bstOf S M n)).Pairwise (fun a b => ∀ c, c ∈ ordL M a n → c ∉ ordL M b n) := by
      rw [List.pairwise_map]
      refine List.Pairwise.imp_of_mem (fun {G H} hG hH hne c hc hd => hne ?_) (List.nodup_iff_pairwise_ne.1 (grp_nodup hmo))
      have h1 := (ordL_perm hmo hm hG (bst_in (grp_whole hmo hG).2)).mem_iff.1 hc
      have h2 := (ordL_perm hmo hm hH (bst_in (grp_whole hmo hH).2)).mem_iff.1 hd
      have hl := (grp_whole hmo hG).1.lt c h1
      rw [grp_of hmo hl hG h1, grp_of hmo hl hH h2]
    have := (hp.symm.pairwise_iff (fun {a b} (g : ∀ c, c ∈ ordL M a n → c ∉ ordL M b n) => fun c hc hd => g c hd hc)).1 hb
    refine this.imp fun {a b} g c hc hd => ?_
    rw [natO_nats] at hc hd
    exact g c hc hd
  have hok : ∀ p, p ∈ (rs.map fun r => ((codeL S M r n, nats (ordL M r n), 1) : Dgm)) → PieOk S M n p := fun p hp => by
    obtain ⟨r, hr, rfl⟩ := List.mem_map.1 hp
    refine ⟨?_, ?_⟩
    · rw [natO_nats]; exact ⟨dec1S_code _ _ _ _, dec1M_code _ _ _ _⟩
    · rw [natO_nats]; exact hw1 r hr
  obtain ⟨f1, f2, f3⟩ := form_list _ hok hap
  have e0 : flO (rs.map fun r => ((codeL S M r n, nats (ordL M r n), 1) : Dgm)) = rs.flatMap fun r => ordL M r n := by
    unfold flO
    rw [List.flatMap_map]
    rw [List.flatMap_def, List.flatMap_def]
    congr 1
    exact List.map_congr_left fun r _ => natO_nats _
  have e1 : (rs.map fun r => ((codeL S M r n, nats (ordL M r n), 1) : Dgm)).map (fun p => p.1) = codesL S M n := by
    rw [List.map_map]; exact rts_codes hmo hm h
  rw [e0, e1] at f1 f2
  rw [e0] at f3
  refine ⟨(List.perm_ext_iff_of_nodup f3.nd List.nodup_range).2 fun c => ⟨fun hc => List.mem_range.2 (f3.lt c hc), fun hc => ?_⟩, by rw [f1, hn]; rfl, by rw [f2, hn]; rfl⟩
  have hc := List.mem_range.1 hc
  have hg := grp_has hmo c hc
  refine List.mem_flatMap.2 ⟨bstOf S M n (clsN M n c), hp.mem_iff.2 (List.mem_map.2 ⟨_, hg, rfl⟩), ?_⟩
  exact (ordL_perm hmo hm hg (bst_in (grp_whole hmo hg).2)).mem_iff.2 (cls_self hc)
end
end Go.Proofs.YtmhhjchnjaefhaaDoor

namespace Go.Proofs.YtmhhjchnjaefhaaDoor
open Go Go.RowKit
/-- How many crossings of the piece with a code yield it. -/
def kcnt (c : List Int) : Nat := (List.range (c.length / 5)).countP fun i => decide (codeL (dec1S c) (dec1M c) i (c.length / 5) = c)
theorem map_getD_range (o : List Nat) : (List.range o.length).map (fun i => o.getD i 0) = o := by
  refine List.ext_getElem (by simp) fun i h1 h2 => ?_
  simp [h2]
theorem ordL_head (M : List Int) (r n : Nat) : ∃ tl, ordL M r n = r :: tl := by
  obtain ⟨tl, h⟩ := ordTo_pre M r (Nat.zero_le n)
  exact ⟨tl, by unfold ordL; rw [← h]; rfl⟩
section
variable {S M : List Int} {L : Int} (hv : vldB S M L = true)
include hv
theorem ordL_whole {r : Nat} (hr : r < S.length) : Whole M S.length (ordL M r S.length) := by
  have hs := vldB_shape hv
  have hmo := hs.mates
  have hm : ∀ x, x < 4 * S.length → mt M x < 4 * S.length := fun x hx => hs.mt_lt hx
  have hG := grp_has hmo r hr
  have hw := grp_whole hmo hG
  have hp := ordL_perm hmo hm hG (cls_self hr)
  exact ⟨fun c hc => hw.1.lt c (hp.mem_iff.1 hc), hp.nodup_iff.2 hw.1.nd, fun c hc d hcd => hp.mem_iff.2 (hw.1.cl c (hp.mem_iff.1 hc) d hcd)⟩
theorem roots_kcnt {r : Nat} (hr : r < S.length) : rootsN S M S.length (ordL M r S.length) (codeL S M r S.length) = kcnt (codeL S M r S.length) := by
  have hs := vldB_shape hv
  have hw := ordL_whole hv hr
  have hl := codeL_len S M r S.length
  have hle : (ordL M r S.length).length ≤ S.length := ordTo_len (fun x hx => hs.mt_lt hx) hr S.length
  have E := part_emb hv hw
  have hm' := E.mates hs.mates2 (part_range hv hw)
  have e1 := dec1S_code S M r S.length
  have e2 := dec1M_code S M r S.length
  unfold kcnt rootsN
  rw [e1, e2, hl, Nat.mul_div_cancel_left _ (by decide : 0 < 5)]
  generalize codeL S M r S.length = c at *
  generalize ordL M r S.length = o at *
  conv => lhs; rw [← map_getD_range o]
  rw [List.countP_map]
  refine List.countP_congr fun i hi => ?_
  have hi := List.mem_range.1 hi
  have := emb_code E (fun x hx => hm'.lt hx) (fun c hc => (partS_nth (S := S) hc).symm) hi hle
  show decide (codeL S M (o.getD i 0) S.length = c) = true ↔ _
  rw [this]
theorem grp_kcnt {G : List Nat} (hG : G ∈ grpOf M S.length) : rootsN S M S.length G (pieOf S M S.length G).1 = kcnt (pieOf S M S.length G).1 := by
  have hs := vldB_shape hv
  have hmo := hs.mates
  have hm : ∀ x, x < 4 * S.length → mt M x < 4 * S.length := fun x hx => hs.mt_lt hx
  have hw := grp_whole hmo hG
  obtain ⟨r, hr, e1, _⟩ := (pie_is S M S.length hw.2).at_
  rw [e1, ← roots_kcnt hv (hw.1.lt r hr)]
  unfold rootsN
  rw [(ordL_perm hmo hm hG hr).countP_eq]
end
theorem rts_some (S M : List Int) (n : Nat) : ∃ rs, Rts S M n (grpOf M n).length rs := by
  refine ⟨((grpOf M n).map (bstOf S M n)).mergeSort fun a b => slx (codeL S M a n) (codeL S M b n), ?_, ?_⟩
  · rw [List.take_of_length_le (Nat.le_refl _)]
    exact List.mergeSort_perm _ _
  · exact List.pairwise_mergeSort (le := fun a b => slx (codeL S M a n) (codeL S M b n)) (fun a b c => slx_trans _ _ _) (fun a b => slx_total _ _) _
def tup (S M : List Int) (n : Nat) : List Nat → List (List Nat) → List (List Nat)
  | [], _ => [[]]
  | r :: rs, A => (A.filter fun G => decide ((pieOf S M n G).1 = codeL S M r n)).flatMap fun G => (G.filter fun x => decide (codeL S M x n = codeL S M r n)).flatMap fun x => (tup S M n rs (A.erase G)).map (x :: ·)
theorem mem_tup {S M : List Int} {n r : Nat} {rs : List Nat} {A : List (List Nat)} {t : List Nat} : t ∈ tup S M n (r :: rs) A ↔ ∃ G x t', G ∈ A ∧ (pieOf S M n G).1 = codeL S M r n ∧ x ∈ G ∧ codeL S M x n = codeL S M r n ∧ t' ∈ tup S M n rs (A.erase G) ∧ t = x :: t' := by
  rw [tup, List.mem_flatMap]
  constructor
  · rintro ⟨G, hG, h⟩
    rw [List.mem_filter, decide_eq_true_eq] at hG
    obtain ⟨x, hx, h⟩ := List.mem_flatMap.1 h
    rw [List.mem_filter, decide_eq_true_eq] at hx
    obtain ⟨t', ht, rfl⟩ := List.mem_map.1 h
    exact ⟨G, x, t', hG.1, hG.2, hx.1, hx.2, ht, rfl⟩
  · rintro ⟨G, x, t', h1, h2, h3, h4, h5, rfl⟩
    exact ⟨G, List.mem_filter.2 ⟨h1, decide_eq_true h2⟩, List.mem_flatMap.2 ⟨x, List.mem_filter.2 ⟨h3, decide_eq_true h4⟩, List.mem_map.2 ⟨t', h5, rfl⟩⟩⟩
theorem flat_const {α β : Type} (f : α → List β) (m : Nat) : ∀ (l : List α), (∀ x, x ∈ l → (f x).length = m) → (l.flatMap f).length = l.length * m
  | [], _ => by simp
  | x :: l, h => by
    rw [List.flatMap_cons, List.length_append, List.length_cons, h x List.mem_cons_self, flat_const f m l fun y hy => h y (List.mem_cons_of_mem _ hy), Nat.add_mul, Nat.one_mul, Nat.add_comm]
/-- The number of choices. -/
def cntT : List (List Int) → Nat
  | [] => 1
  | c :: cs => ((c :: cs).count c) * (kcnt c * cntT cs)
section
variable {S M : List Int} {L : Int} (hv : vldB S M L = true)
include hv
theorem tup_len : ∀ (rs : List Nat) (A : List (List Nat)), (∀ G, G ∈ A → G ∈ grpOf M S.length) → (A.map fun G => (pieOf S M S.length G).1).Perm (rs.map fun r => codeL S M r S.length) → (tup S M S.length rs A).length = cntT (rs.map fun r => codeL S M r S.length)
  | [], A, _, _ => rfl
  | r :: rs, A, hA, hp => by
    rw [tup, List.map_cons, cntT]
    rw [List.map_cons] at hp
    generalize hc : codeL S M r S.length = c at *
    have hin : ∀ G, G ∈ A.filter (fun G => decide ((pieOf S M S.length G).1 = c)) → ((G.filter fun x => decide (codeL S M x S.length = c)).flatMap fun x => (tup S M S.length rs (A.erase G)).map (x :: ·)).length = kcnt c * cntT (rs.map fun r => codeL S M r S.length) := fun G hG => by
      rw [List.mem_filter, decide_eq_true_eq] at hG
      have hq : ((A.erase G).map fun G => (pieOf S M S.length G).1).Perm (rs.map fun r => codeL S M r S.length) := by
        have h1 := (List.perm_cons_erase hG.1).map fun G => (pieOf S M S.length G).1
        rw [List.map_cons, hG.2] at h1
        exact (h1.symm.trans hp).cons_inv
      rw [flat_const _ (cntT (rs.map fun r => codeL S M r S.length)) _ fun x _ => by
        rw [List.length_map, tup_len rs (A.erase G) (fun H hH => hA H (List.mem_of_mem_erase hH)) hq]]
      have hk := grp_kcnt hv (hA G hG.1)
      rw [hG.2] at hk
      rw [← hk]
      unfold rootsN
      rw [List.countP_eq_length_filter]
    rw [flat_const _ _ _ hin]
    congr 1
    rw [← hp.count_eq, List.count, List.countP_map, List.countP_eq_length_filter]
    congr 1
    refine List.filter_congr fun G _ => ?_
    rw [Function.comp_apply]
    by_cases g : (pieOf S M S.length G).1 = c
    · rw [decide_eq_true g, g]; exact (beq_self_eq_true c).symm
    · rw [decide_eq_false g]; exact (beq_eq_false_iff_ne.2 g).symm
theorem grp_apart {G H : List Nat} (hG : G ∈ grpOf M S.length) (hH : H ∈ grpOf M S.length) {c : Nat} (h1 : c ∈ G) (h2 : c ∈ H) : G = H := by
  have hmo := (vldB_shape hv).mates
  have hl := (grp_whole hmo hG).1.lt c h1
  rw [grp_of hmo hl hG h1, grp_of hmo hl hH h2]
theorem tup_nodup : ∀ (rs : List Nat) (A : List (List Nat)), (∀ G, G ∈ A → G ∈ grpOf M S.length) → A.Nodup → (tup S M S.length rs A).Nodup
  | [], A, _, _ => by rw [tup]; simp
  | r :: rs, A, hA, hn => by
    have hmo := (vldB_shape hv).mates
    rw [tup, List.nodup_iff_pairwise_ne, List.pairwise_flatMap]
    refine ⟨fun G hG => ?_, ?_⟩
    · rw [List.mem_filter] at hG
      rw [List.pairwise_flatMap]
      refine ⟨fun x _ => ?_, ?_⟩
      · rw [List.pairwise_map]
        refine (List.nodup_iff_pairwise_ne.1 (tup_nodup rs (A.erase G) (fun H hH => hA H (List.mem_of_mem_erase hH)) (hn.erase G))).imp fun {a b} hne e => hne ?_
        exact (List.cons.inj e).2
      · refine List.Pairwise.imp ?_ (List.nodup_iff_pairwise_ne.1 ((grp_whole hmo (hA G hG.1)).1.nd.filter _))
        intro x y hne a ha b hb e
        obtain ⟨a', _, rfl⟩ := List.mem_map.1 ha
        obtain ⟨b', _, rfl⟩ := List.mem_map.1 hb
        exact hne (List.cons.inj e).1
    · refine List.Pairwise.imp_of_mem ?_ (List.nodup_iff_pairwise_ne.1 (hn.filter _))
      intro G H hG hH hne a ha b hb e
      rw [List.mem_filter] at hG hH
      obtain ⟨x, hx, ha⟩ := List.mem_flatMap.1 ha
      obtain ⟨y, hy, hb⟩ := List.mem_flatMap.1 hb
      rw [List.mem_filter] at hx hy
      obtain ⟨a', _, rfl⟩ := List.mem_map.1 ha
      obtain ⟨b', _, rfl⟩ := List.mem_map.1 hb
      have e1 := (List.cons.inj e).1
      subst e1
      exact hne (grp_apart hv (hA G hG.1) (hA H hH.1) hx.1 hy.1)
theorem ordL_in {G : List Nat} (hG : G ∈ grpOf M S.length) {x : Nat} (hx : x ∈ G) {c : Nat} (hc : c ∈ ordL M x S.length) : c ∈ G := by
  have hs := vldB_shape hv
  exact (ordL_perm hs.mates (fun x hx => hs.mt_lt hx) hG hx).mem_iff.1 hc
theorem tup_spec : ∀ (rs : List Nat) (A : List (List Nat)) (t : List Nat), (∀ G, G ∈ A → G ∈ grpOf M S.length) → A.Nodup → t ∈ tup S M S.length rs A →
    t.map (fun r => codeL S M r S.length) = rs.map (fun r => codeL S M r S.length) ∧ (∀ y, y ∈ t → ∃ G, G ∈ A ∧ y ∈ G) ∧ t.Pairwise fun a b => ∀ c, c ∈ ordL M a S.length → c ∉ ordL M b S.length
  | [], A, t, _, _, h => by
    rw [tup, List.mem_singleton] at h
    subst h
    exact ⟨rfl, fun y hy => by simp at hy, List.Pairwise.nil⟩
  | r :: rs, A, t, hA, hn, h => by
    obtain ⟨G, x, t', h1, h2, h3, h4, h5, rfl⟩ := mem_tup.1 h
    obtain ⟨i1, i2, i3⟩ := tup_spec rs (A.erase G) t' (fun H hH => hA H (List.mem_of_mem_erase hH)) (hn.erase G) h5
    refine ⟨by rw [List.map_cons, List.map_cons, h4, i1], fun y hy => ?_, List.pairwise_cons.2 ⟨fun y hy c hc hd => ?_, i3⟩⟩
    · rcases List.mem_cons.1 hy with rfl | hy
      · exact ⟨G, h1, h3⟩
      · obtain ⟨H, hH, hyH⟩ := i2 y hy
        exact ⟨H, List.mem_of_mem_erase hH, hyH⟩
    · obtain ⟨H, hH, hyH⟩ := i2 y hy
      have hH := (List.Nodup.mem_erase_iff hn).1 hH
      have e := grp_apart hv (hA G h1) (hA H hH.2) (ordL_in hv (hA G h1) h3 hc) (ordL_in hv (hA H hH.2) hyH hd)
      exact hH.1 e.symm
/-- The orders of apart pieces together: the diagram that their codes tell. -/
theorem flat_form {t : List Nat} (ht : ∀ y, y ∈ t → y < S.length) (hp : t.Pairwise fun a b => ∀ c, c ∈ ordL M a S.length → c ∉ ordL M b S.length) :
    partS S (t.flatMap fun r => ordL M r S.length) = decS (t.map fun r => codeL S M r S.length) ∧ partM M (t.flatMap fun r => ordL M r S.length) = decM (t.map fun r => codeL S M r S.length) ∧ Whole M S.length (t.flatMap fun r => ordL M r S.length) := by
  have hok : ∀ p, p ∈ (t.map fun r => ((codeL S M r S.length, nats (ordL M r S.length), 1) : Dgm)) → PieOk S M S.length p := fun p hp => by
    obtain ⟨r, hr, rfl⟩ := List.mem_map.1 hp
    refine ⟨?_, ?_⟩
    · rw [natO_nats]; exact ⟨dec1S_code _ _ _ _, dec1M_code _ _ _ _⟩
    · rw [natO_nats]; exact ordL_whole hv (ht r hr)
  have hap : (t.map fun r => ((codeL S M r S.length, nats (ordL M r S.length), 1) : Dgm)).Pairwise Apart := by
    rw [List.pairwise_map]
    refine hp.imp fun {a b} g c hc hd => ?_
    rw [natO_nats] at hc hd
    exact g c hc hd
  obtain ⟨f1, f2, f3⟩ := form_list _ hok hap
  have e0 : flO (t.map fun r => ((codeL S M r S.length, nats (ordL M r S.length), 1) : Dgm)) = t.flatMap fun r => ordL M r S.length := by
    unfold flO
    rw [List.flatMap_map]
    rw [List.flatMap_def, List.flatMap_def]
    congr 1
    exact List.map_congr_left fun r _ => natO_nats _
  have e1 : (t.map fun r => ((codeL S M r S.length, nats (ordL M r S.length), 1) : Dgm)).map (fun p => p.1) = t.map fun r => codeL S M r S.length := by
    rw [List.map_map]; rfl
  rw [e0, e1] at f1 f2
  rw [e0] at f3
  exact ⟨f1, f2, f3⟩
end
theorem ord_lens {S M : List Int} {n a b : Nat} (h : codeL S M a n = codeL S M b n) : (ordL M a n).length = (ordL M b n).length := by
  have h1 := codeL_len S M a n
  have h2 := codeL_len S M b n
  rw [h] at h1
  omega
/-- Where the leads stand. -/
theorem flat_head {S M : List Int} {n : Nat} : ∀ (rs t : List Nat), t.map (fun r => codeL S M r n) = rs.map (fun r => codeL S M r n) → (rs.Pairwise fun a b => ∀ c, c ∈ ordL M a n → c ∉ ordL M b n) →
    rs.map (fun r => (t.flatMap fun r => ordL M r n).getD ((rs.flatMap fun r => ordL M r n).idxOf r) 0) = t
  | [], [], _, _ => rfl
  | [], _ :: _, h, _ => by simp at h
  | _ :: _, [], h, _ => by simp at h
  | r :: rs, x :: t, h, hp => by
    rw [List.map_cons, List.map_cons, List.cons.injEq] at h
    rw [List.pairwise_cons] at hp
    have ih := flat_head rs t h.2 hp.2
    have hl := ord_lens h.1
    rw [List.map_cons, List.flatMap_cons, List.flatMap_cons]
    congr 1
    · obtain ⟨tl, e⟩ := ordL_head M r n
      obtain ⟨tl2, e2⟩ := ordL_head M x n
      rw [e, e2]
      simp
    · conv => rhs; rw [← ih]
      refine List.map_congr_left fun r' hr' => ?_
      have hn : r' ∉ ordL M r n := fun hc => hp.1 r' hr' r' hc (by obtain ⟨tl, e⟩ := ordL_head M r' n; rw [e]; exact List.mem_cons_self)
      rw [List.idxOf_append, if_neg hn, ← hl, List.getD_eq_getElem?_getD, List.getD_eq_getElem?_getD, List.getElem?_append_right (by omega), Nat.add_sub_cancel]
section
variable {S M : List Int} {L : Int} (hv : vldB S M L = true)
include hv
theorem aut_emb {o : List Nat} (ho : o.Perm (List.range S.length)) (hM : partM M o = M) : Emb M S.length M S.length fun c => o.getD c 0 := by
  have hs := vldB_shape hv
  have := part_emb hv (whole_perm hs.mates ho)
  rwa [hM, perm_len ho] at this
omit hv in
theorem aut_sign {o : List Nat} (ho : o.Perm (List.range S.length)) (hS : partS S o = S) : ∀ c, c < S.length → nth S (o.getD c 0) = nth S c := fun c hc => by
  have := partS_nth (S := S) (G := o) (c := c) (by rw [perm_len ho]; exact hc)
  rw [hS] at this
  exact this.symm
theorem aut_tup {o : List Nat} (ho : o.Perm (List.range S.length)) (hS : partS S o = S) (hM : partM M o = M) : ∀ (rs : List Nat) (A : List (List Nat)), A.Nodup → (∀ r, r ∈ rs → r < S.length ∧ codeL S M r S.length = (pieOf S M S.length (clsN M S.length r)).1 ∧ clsN M S.length (o.getD r 0) ∈ A) →
    (rs.Pairwise fun a b => ¬ Conn M a b) → rs.map (fun r => o.getD r 0) ∈ tup S M S.length rs A
  | [], A, _, _, _ => by rw [tup]; simp
  | r :: rs, A, hn, hr, hp => by
    have hs := vldB_shape hv
    have hm : ∀ x, x < 4 * S.length → mt M x < 4 * S.length := fun x hx => hs.mt_lt hx
    have E := aut_emb hv ho hM
    have hsg := aut_sign ho hS
    obtain ⟨h1, h2, h3⟩ := hr r List.mem_cons_self
    rw [List.pairwise_cons] at hp
    refine mem_tup.2 ⟨clsN M S.length (o.getD r 0), o.getD r 0, rs.map (fun r => o.getD r 0), h3, ?_, cls_self (E.lt r h1), emb_code E hm hsg h1 (Nat.le_refl _), ?_, rfl⟩
    · rw [h2]
      exact (emb_pie E hs.mates2 hsg (Nat.le_refl _) h1).1
    · refine aut_tup ho hS hM rs _ (hn.erase _) (fun r' hr' => ?_) hp.2
      obtain ⟨g1, g2, g3⟩ := hr r' (List.mem_cons_of_mem _ hr')
      refine ⟨g1, g2, (List.Nodup.mem_erase_iff hn).2 ⟨fun e => ?_, g3⟩⟩
      have hin : o.getD r' 0 ∈ clsN M S.length (o.getD r 0) := by rw [← e]; exact cls_self (E.lt r' g1)
      exact hp.1 r' hr' ((E.conn_iff hs.mates2 h1 g1).1 (mem_clsN.1 hin).2)
theorem tup_aut {rs t : List Nat} (hr : ∀ r, r ∈ rs → r < S.length) (hp : rs.Pairwise fun a b => ∀ c, c ∈ ordL M a S.length → c ∉ ordL M b S.length) (hR : (rs.flatMap fun r => ordL M r S.length).Perm (List.range S.length))
    (ht : ∀ y, y ∈ t → y < S.length) (hpt : t.Pairwise fun a b => ∀ c, c ∈ ordL M a S.length → c ∉ ordL M b S.length) (hc : t.map (fun r => codeL S M r S.length) = rs.map (fun r => codeL S M r S.length)) :
    ∃ o : List Nat, o.Perm (List.range S.length) ∧ partS S o = S ∧ partM M o = M ∧ rs.map (fun r => o.getD r 0) = t := by
  have hs := vldB_shape hv
  obtain ⟨f1, f2, f3⟩ := flat_form hv ht hpt
  obtain ⟨g1, g2, g3⟩ := flat_form hv hr hp
  rw [hc, ← g1] at f1
  rw [hc, ← g2] at f2
  have hh := flat_head rs t hc hp
  have hlen : (t.flatMap fun r => ordL M r S.length).length = S.length := by
    have := congrArg List.length f1
    rw [partS_len, partS_len, perm_len hR] at this
    exact this
  generalize (t.flatMap fun r => ordL M r S.length) = T at *
  generalize (rs.flatMap fun r => ordL M r S.length) = R at *
  have hT : T.Perm (List.range S.length) := nodup_perm_range f3.nd f3.lt hlen
  have hq := inv_perm hR
  refine ⟨cmpO T (invO R S.length), cmp_perm hT hq, ?_, ?_, ?_⟩
  · rw [← partS_comp hT S hq, f1, partS_comp hR S hq, cmp_inv hR]
    exact partS_id S
  · rw [← partM_comp hT hs.mates hq, f2, partM_comp hR hs.mates hq, cmp_inv hR]
    exact partM_id hs.mates hs.len
  · conv => rhs; rw [← hh]
    refine List.map_congr_left fun r hrr => ?_
    have hlt := hr r hrr
    unfold cmpO invO
    rw [List.map_map, List.getD_eq_getElem?_getD, List.getElem?_map, List.getElem?_range hlt]
    rfl
theorem aut_inj {rs : List Nat} (hr : ∀ r, r ∈ rs → r < S.length) (hR : (rs.flatMap fun r => ordL M r S.length).Perm (List.range S.length)) {o o' : List Nat} (ho : o.Perm (List.range S.length)) (ho' : o'.Perm (List.range S.length)) (hM : partM M o = M) (hM' : partM M o' = M)
    (h : rs.map (fun r => o.getD r 0) = rs.map (fun r => o'.getD r 0)) : o = o' := by
  have hs := vldB_shape hv
  have hm : ∀ x, x < 4 * S.length → mt M x < 4 * S.length := fun x hx => hs.mt_lt hx
  have E := aut_emb hv ho hM
  have E' := aut_emb hv ho' hM'
  have key : ∀ c, c < S.length → o.getD c 0 = o'.getD c 0 := fun c hc => by
    obtain ⟨r, hrr, hcr⟩ := List.mem_flatMap.1 (hR.mem_iff.2 (List.mem_range.2 hc))
    have e1 := List.map_inj_left.1 h r hrr
    have h1 := emb_ord E hm (hr r hrr) (Nat.le_refl _)
    have h2 := emb_ord E' hm (hr r hrr) (Nat.le_refl _)
    rw [e1, h2] at h1
    exact (List.map_inj_left.1 h1 c hcr).symm
  rw [← map_getD_range o, ← map_getD_range o', perm_len ho, perm_len ho']
  exact List.map_congr_left fun c hc => key c (List.mem_range.1 hc)
end
theorem alk_count {cs : List (List Int)} (hs : cs.Pairwise fun a b => slx a b = true) : ∀ i, i < cs.length → alk cs i = (((cs.take (i + 1)).count (cs.getD i []) : Nat) : Int)
  | 0, h => by
    rw [List.take_add_one, getD_some (d := []) h, List.take_zero]
    simp [alk]
  | i + 1, h => by
    have ih := alk_count hs i (by omega)
    rw [alk, List.take_add_one, getD_some (d := []) h, Option.toList_some, List.count_append]
    by_cases e : cs.getD (i + 1) [] = cs.getD i []
    · rw [if_pos e, ih, e]
      simp
    · rw [if_neg e]
      have hz : (cs.take (i + 1)).count (cs.getD (i + 1) []) = 0 := by
        rw [List.count_eq_zero]
        intro hm
        obtain ⟨j, hj, ej⟩ := List.mem_iff_getElem.1 hm
        rw [List.length_take] at hj
        rw [List.getElem_take] at ej
        have ej2 : cs.getD (i + 1) [] = cs[i + 1] := by rw [List.getD_eq_getElem?_getD, List.getElem?_eq_getElem h]; rfl
        have ei2 : cs.getD i [] = cs[i] := by rw [List.getD_eq_getElem?_getD, List.getElem?_eq_getElem (by omega)]; rfl
        rw [ej2] at ej e
        rw [ei2] at e
        rcases Nat.lt_or_ge j i with g | g
        · have h1 := List.pairwise_iff_getElem.1 hs j i (by omega) (by omega) g
          have h2 := List.pairwise_iff_getElem.1 hs i (i + 1) (by omega) h (by omega)
          rw [ej] at h1
          exact e (slx_anti h1 h2)
        · have : j = i := by omega
          subst this
          exact e ej.symm
      rw [hz]
      simp
theorem prod_cnt {cs : List (List Int)} (hs : cs.Pairwise fun a b => slx a b = true) : ∀ i, i ≤ cs.length → prodI ((cs.take i).map fun c => (kcnt c : Int)) * aprod cs i = (cntT (cs.take i).reverse : Int)
  | 0, _ => by simp [prodI, aprod, cntT]
  | i + 1, h => by
    have ih := prod_cnt hs i (by omega)
    have ha := alk_count hs i (by omega)
    have e : (cs.take (i + 1)).reverse = cs.getD i [] :: (cs.take i).reverse := by
      rw [List.take_add_one, getD_some (d := []) (by omega), Option.toList_some, List.reverse_append]; rfl
    rw [e, cntT, aprod, ha, List.take_add_one, getD_some (d := []) (by omega), Option.toList_some, List.map_append, prodI_append]
    have e2 : (cs.getD i [] :: (cs.take i).reverse).count (cs.getD i []) = (cs.take i ++ [cs.getD i []]).count (cs.getD i []) := by
      rw [List.count_append, List.count_cons, List.count_reverse]
      simp
    rw [e2]
    simp only [List.map_cons, List.map_nil, prodI, Int.mul_one]
    push_cast
    rw [← ih]
    simp only [Int.mul_assoc, Int.mul_left_comm, Int.mul_comm]
/-- Symmetries counts the orders that renumber the diagram into itself. -/
theorem sym_count {S M : List Int} {L : Int} (hv : vldB S M L = true) (h5 : S.length ≤ 5) :
    (((exts S.length S.length []).countP (fun o => eqD (partS S o) (partM M o) L S M L) : Nat) : Int) = symV S M S.length := by
  have hs := vldB_shape hv
  have hmo := hs.mates
  have hm : ∀ x, x < 4 * S.length → mt M x < 4 * S.length := fun x hx => hs.mt_lt hx
  obtain ⟨rs0, h0⟩ := rts_some S M S.length
  have hp0 := h0.perm
  rw [List.take_of_length_le (Nat.le_refl _)] at hp0
  have hcs := rts_codes hmo hm h0
  obtain ⟨rs, hrs⟩ : ∃ rs, rs = rs0.reverse := ⟨_, rfl⟩
  have hpr : rs.Perm ((grpOf M S.length).map (bstOf S M S.length)) := by rw [hrs]; exact (List.reverse_perm _).trans hp0
  have hrG : ∀ r, r ∈ rs → ∃ G, G ∈ grpOf M S.length ∧ r = bstOf S M S.length G ∧ r ∈ G ∧ r < S.length := fun r hr => rts_of hmo hm h0 (by rw [hrs] at hr; exact List.mem_reverse.1 hr)
  have hlt : ∀ r, r ∈ rs → r < S.length := fun r hr => by obtain ⟨_, _, _, _, h⟩ := hrG r hr; exact h
  have hdis : rs.Pairwise fun a b => ∀ c, c ∈ ordL M a S.length → c ∉ ordL M b S.length := by
    have hb : ((grpOf M S.length).map (bstOf S M S.length)).Pairwise (fun a b => ∀ c, c ∈ ordL M a S.length → c ∉ ordL M b S.length) := by
      rw [List.pairwise_map]
      refine List.Pairwise.imp_of_mem (fun {G H} hG hH hne c hc hd => hne ?_) (List.nodup_iff_pairwise_ne.1 (grp_nodup hmo))
      exact grp_apart hv hG hH (ordL_in hv hG (bst_in (grp_whole hmo hG).2) hc) (ordL_in hv hH (bst_in (grp_whole hmo hH).2) hd)
    exact (hpr.symm.pairwise_iff (fun {a b} (g : ∀ c, c ∈ ordL M a S.length → c ∉ ordL M b S.length) => fun c hc hd => g c hd hc)).1 hb
  have hR : (rs.flatMap fun r => ordL M r S.length).Perm (List.range S.length) := by
    have h1 := (rts_form hmo hm h0 hs rfl).1
    refine (List.Perm.trans ?_ h1)
    rw [hrs]
    exact (List.reverse_perm rs0).flatMap_right _
  have hcn : rs.Pairwise fun a b => ¬ Conn M a b := by
    refine List.Pairwise.imp_of_mem ?_ hdis
    intro a b ha hb g hc
    have hin : b ∈ ordL M a S.length := (mem_ordL hm (hlt a ha)).2 hc
    exact g b hin (by obtain ⟨tl, e⟩ := ordL_head M b S.length; rw [e]; exact List.mem_cons_self)
  have hgc : ∀ G, G ∈ grpOf M S.length → G ∈ grpOf M S.length := fun G h => h
  -- the choices
  have hperm : ((grpOf M S.length).map fun G => (pieOf S M S.length G).1).Perm (rs.map fun r => codeL S M r S.length) := by
    refine List.Perm.trans (List.Perm.of_eq ?_) (hpr.map _).symm
    rw [List.map_map]
    exact List.map_congr_left fun G hG => (bst_code hmo hm hG).symm
  have hlen := tup_len hv rs (grpOf M S.length) hgc hperm
  have hbij : (((exts S.length S.length []).filter fun o => eqD (partS S o) (partM M o) L S M L).map fun o => rs.map fun r => o.getD r 0).Perm (tup S M S.length rs (grpOf M S.length)) := by
    have hau : ∀ o, o ∈ ((exts S.length S.length []).filter fun o => eqD (partS S o) (partM M o) L S M L) ↔ o.Perm (List.range S.length) ∧ partS S o = S ∧ partM M o = M := fun o => by
      rw [List.mem_filter, exts_all]
      unfold eqD
      rw [decide_eq_true_eq]
      constructor
      · rintro ⟨h1, h2, h3, _⟩; exact ⟨h1, h2, h3⟩
      · rintro ⟨h1, h2, h3⟩; exact ⟨h1, h2, h3, rfl⟩
    refine (List.perm_ext_iff_of_nodup ?_ (tup_nodup hv rs _ hgc (grp_nodup hmo))).2 fun t => ?_
    · rw [List.nodup_iff_pairwise_ne, List.pairwise_map]
      refine List.Pairwise.imp_of_mem ?_ (List.nodup_iff_pairwise_ne.1 ((exts_nodup S.length []).filter _))
      intro a b ha hb hne e
      obtain ⟨a1, a2, a3⟩ := (hau a).1 ha
      obtain ⟨b1, b2, b3⟩ := (hau b).1 hb
      exact hne (aut_inj hv hlt hR a1 b1 a3 b3 e)
    · rw [List.mem_map]
      constructor
      · rintro ⟨o, ho, rfl⟩
        obtain ⟨a1, a2, a3⟩ := (hau o).1 ho
        refine aut_tup hv a1 a2 a3 rs _ (grp_nodup hmo) (fun r hr => ?_) hcn
        obtain ⟨G, hG, e1, e2, e3⟩ := hrG r hr
        refine ⟨e3, ?_, grp_has hmo _ ((aut_emb hv a1 a3).lt r e3)⟩
        rw [← grp_of hmo e3 hG e2, ← bst_code hmo hm hG, ← e1]
      · intro ht
        obtain ⟨s1, s2, s3⟩ := tup_spec hv rs _ t hgc (grp_nodup hmo) ht
        have htl : ∀ y, y ∈ t → y < S.length := fun y hy => by
          obtain ⟨G, hG, hyG⟩ := s2 y hy
          exact (grp_whole hmo hG).1.lt y hyG
        obtain ⟨o, q1, q2, q3, q4⟩ := tup_aut hv hlt hdis hR htl s3 s1
        exact ⟨o, (hau o).2 ⟨q1, q2, q3⟩, q4⟩
  have hcnt : (exts S.length S.length []).countP (fun o => eqD (partS S o) (partM M o) L S M L) = cntT (rs.map fun r => codeL S M r S.length) := by
    rw [List.countP_eq_length_filter, ← hlen, ← hbij.length_eq, List.length_map]
  have hle : (exts S.length S.length []).countP (fun o => eqD (partS S o) (partM M o) L S M L) ≤ 3125 := by
    refine Nat.le_trans List.countP_le_length (Nat.le_trans (exts_few h5 _ _ h5) ?_)
    exact Nat.pow_le_pow_right (by decide) h5
  have hsrt : (codesL S M S.length).Pairwise fun a b => slx a b = true := by rw [← hcs, List.pairwise_map]; exact h0.srt
  have hprod := prod_cnt hsrt _ (Nat.le_refl _)
  rw [List.take_length] at hprod
  have hk : prodI ((codesL S M S.length).map fun c => (kcnt c : Int)) = prodI ((pinf S M S.length).map Prod.snd) := by
    have h1 : (codesL S M S.length).Perm ((pinf S M S.length).map Prod.fst) := List.mergeSort_perm _ _
    rw [prodI_perm (h1.map _)]
    unfold pinf
    rw [List.map_map, List.map_map, List.map_map]
    congr 1
    refine List.map_congr_left fun G hG => ?_
    show (kcnt (pieOf S M S.length G).1 : Int) = (pieOf S M S.length G).2.2
    rw [pie_roots S M S.length (grp_whole hmo hG).2, grp_kcnt hv hG]
  unfold symV
  rw [← hk, hprod, ← hcs, ← List.map_reverse, ← hrs, ← hcnt]
  generalize (exts S.length S.length []).countP (fun o => eqD (partS S o) (partM M o) L S M L) = q at *
  have ec : capS = 1099511627776 := rfl
  rw [Int.min_eq_left (by rw [ec]; omega)]
end Go.Proofs.YtmhhjchnjaefhaaDoor

