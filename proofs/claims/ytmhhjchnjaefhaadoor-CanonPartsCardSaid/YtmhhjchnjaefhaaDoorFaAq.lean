/- Plain: the canonical form is told by the codes of the pieces. Plain: a renumbered diagram has as many faces, strands and parts. The walks of strings.Builder's copyCheck, WriteString and WriteByte at a builder of the call's own that lies ahead of blocks which stay. canon.Key: the numbers of the code as a text. -/
import Derived.WalkKit
import Derived.WalkSpells
import Derived.WalkLawsBesides
import Derived.Deep.AppendSrc
import Derived.Deep.LoopGhost
import Derived.Deep.QuietTactic
import Derived.Deep.RegionWith
import Derived.Deep.DeepMust
import Derived.Deep.DeepFit
import Derived.BigQuiet
import Derived.Lib.Hide
import Derived.Outline
import Derived.Test.YtmhhjchnjaefhaaDoorProg
import Derived.Deep.Matrix
import Derived.Deep.DeepCutAuto
import Derived.Deep.RegionLaw
import Derived.Deep.RegionHeld3
import Derived.Lib.SliceRun
import Derived.Shelf.Strings.Builder1
import Derived.Shelf.Small.Wraps
import Derived.Shelf.Strings.BuilderF
import Derived.Shelf.Strings.BuilderK
import Derived.Shelf.Strconv.Itoa0
import Derived.Shelf.Strconv.Itoa1
import Derived.Shelf.LaysM
import Derived.Shelf.Strconv.Itoa2
import Derived.Shelf.Strconv.Itoa3
import Derived.Shelf.Slices.Equal
import Derived.Ground.Names2Prog
import Derived.Shelf.Slices.Clone
import Derived.Shelf.Slices.SearchI
import Derived.Shelf.Slices.Empties2
import Derived.Ground.SlgnProg
import Derived.Shelf.SlicesE.Clone
import Derived.Sort.OwnSortedInts
import Derived.Shelf.Small.Bits
import Derived.Shelf.Sort.Plain
import Derived.Shelf.Slices.Turned
import Derived.Shelf.Slices.CompactI
import Derived.Shelf.Slices.Cells
import Derived.Shelf.Slices.In.SortNone
import Derived.Lib.AppendZeros
import Derived.Deep.RegionHeld
import Derived.Lib.Builder
import Derived.Lib.AppendStr
import Derived.Lib.Walk
import Derived.Laws.Externs
import Derived.Lib.AppendIntMem
import Derived.Test.YtmhhjchnjaefhaaDoorFaAa
import Derived.Test.YtmhhjchnjaefhaaDoorFaAb
import Derived.Test.YtmhhjchnjaefhaaDoorFaAc
import Derived.Test.YtmhhjchnjaefhaaDoorFaAd
import Derived.Test.YtmhhjchnjaefhaaDoorFaAe
import Derived.Test.YtmhhjchnjaefhaaDoorFaAf
import Derived.Test.YtmhhjchnjaefhaaDoorFaAg
import Derived.Test.YtmhhjchnjaefhaaDoorFaAh
import Derived.Test.YtmhhjchnjaefhaaDoorFaAi
import Derived.Test.YtmhhjchnjaefhaaDoorFaAj
import Derived.Test.YtmhhjchnjaefhaaDoorFaAk
import Derived.Test.YtmhhjchnjaefhaaDoorFaAl
import Derived.Test.YtmhhjchnjaefhaaDoorFaAm
import Derived.Test.YtmhhjchnjaefhaaDoorFaAn
import Derived.Test.YtmhhjchnjaefhaaDoorFaAo
import Derived.Test.YtmhhjchnjaefhaaDoorFaAp
namespace Go.Proofs.YtmhhjchnjaefhaaDoor
open Go Go.RowKit
def dec1S (c : List Int) : List Int := (List.range (c.length / 5)).map fun i => nth c (5 * i)
def dec1M (c : List Int) : List Int := (List.range (4 * (c.length / 5))).map fun k => nth c (5 * (k / 4) + 1 + k % 4)
def decS (cs : List (List Int)) : List Int := cs.flatMap dec1S
def decM : List (List Int) → List Int
  | [] => []
  | c :: cs => uniM (dec1M c) (decM cs)
theorem nth_codeTo (S M : List Int) (o : List Nat) : ∀ i j t, j < i → t < 5 → nth (codeTo S M o i) (5 * j + t) = nth (rowC S M o (o.getD j 0) 4) t
  | 0, j, _, h, _ => by omega
  | i + 1, j, t, h, ht => by
    have hl := codeTo_len S M o i
    rw [codeTo_succ]
    rcases Nat.lt_or_ge j i with g | g
    · rw [nth_append_left _ _ _ (by omega)]
      exact nth_codeTo S M o i j t g ht
    · obtain rfl : j = i := by omega
      rw [nth_append_right _ _ _ (by omega), hl, show 5 * j + t - 5 * j = t by omega]
theorem rowC_nth (S M : List Int) (o : List Nat) (c : Nat) {k s : Nat} (h : s < k) : nth (rowC S M o c k) (1 + s) = ((4 * o.idxOf (mt M (4 * c + s) / 4) + mt M (4 * c + s) % 4 : Nat) : Int) := by
  unfold rowC nth
  rw [List.getD_eq_getElem?_getD, Nat.add_comm, List.getElem?_cons_succ, List.getElem?_map, List.getElem?_range h]
  rfl
theorem dec1S_code (S M : List Int) (r n : Nat) : dec1S (codeL S M r n) = partS S (ordL M r n) := by
  have hl := codeL_len S M r n
  refine ext_nth (by simp [dec1S, partS_len, hl]) fun i hi => ?_
  have hi2 : i < (ordL M r n).length := by
    simp [dec1S, hl] at hi; omega
  rw [partS_nth hi2]
  have e : nth (dec1S (codeL S M r n)) i = nth (codeL S M r n) (5 * i) := by
    unfold dec1S
    rw [show nth ((List.range ((codeL S M r n).length / 5)).map fun i => nth (codeL S M r n) (5 * i)) i = _ from nth_row _ _ _ (by omega)]
  rw [e]
  have := nth_codeTo S M (ordL M r n) (ordL M r n).length i 0 hi2 (by omega)
  exact this
theorem dec1M_code (S M : List Int) (r n : Nat) : dec1M (codeL S M r n) = partM M (ordL M r n) := by
  have hl := codeL_len S M r n
  refine ext_nth (by simp [dec1M, partM_len, hl]) fun k hk => ?_
  have hk2 : k < 4 * (ordL M r n).length := by
    simp [dec1M, hl] at hk; omega
  rw [partM_nth hk2]
  have e : nth (dec1M (codeL S M r n)) k = nth (codeL S M r n) (5 * (k / 4) + 1 + k % 4) := by
    unfold dec1M
    exact nth_row _ _ _ (by omega)
  rw [e]
  have := nth_codeTo S M (ordL M r n) (ordL M r n).length (k / 4) (1 + k % 4) (by omega) (by omega)
  rw [← Nat.add_assoc] at this
  unfold codeL
  rw [this, rowC_nth S M _ _ (by omega)]
  unfold partV idxI
  omega
/-- A piece of a diagram. -/
structure PieOk (S M : List Int) (n : Nat) (p : Dgm) : Prop where
  code : dec1S p.1 = partS S (natO p.2.1) ∧ dec1M p.1 = partM M (natO p.2.1)
  whole : Whole M n (natO p.2.1)
def Apart (p q : Dgm) : Prop := ∀ c, c ∈ natO p.2.1 → c ∉ natO q.2.1
def flO (ys : List Dgm) : List Nat := ys.flatMap fun p => natO p.2.1
theorem form_list {S M : List Int} {n : Nat} : ∀ (ys : List Dgm), (∀ p, p ∈ ys → PieOk S M n p) → ys.Pairwise Apart → partS S (flO ys) = decS (ys.map fun p => p.1) ∧ partM M (flO ys) = decM (ys.map fun p => p.1) ∧ Whole M n (flO ys)
  | [], _, _ => ⟨rfl, rfl, ⟨fun c h => by simp [flO] at h, by simp [flO], fun c h => by simp [flO] at h⟩⟩
  | p :: ys, h, hp => by
    rw [List.pairwise_cons] at hp
    obtain ⟨i1, i2, i3⟩ := form_list ys (fun q hq => h q (List.mem_cons_of_mem _ hq)) hp.2
    have hk := h p List.mem_cons_self
    have e : flO (p :: ys) = natO p.2.1 ++ flO ys := by unfold flO; rw [List.flatMap_cons]
    have hd : ∀ c, c ∈ natO p.2.1 → c ∉ flO ys := fun c hc hf => by
      obtain ⟨q, hq, hcq⟩ := List.mem_flatMap.1 hf
      exact hp.1 q hq c hc hcq
    rw [e]
    refine ⟨?_, ?_, ⟨fun c hc => ?_, ?_, fun c hc d hcd => ?_⟩⟩
    · rw [partS_append, i1, ← hk.code.1, List.map_cons]
      unfold decS
      rw [List.flatMap_cons]
    · rw [← part_union hk.whole i3 hd, i2, ← hk.code.2, List.map_cons]
      rfl
    · rcases List.mem_append.1 hc with g | g
      · exact hk.whole.lt c g
      · exact i3.lt c g
    · rw [List.nodup_append]
      exact ⟨hk.whole.nd, i3.nd, fun a ha b hb e => hd a ha (e ▸ hb)⟩
    · rcases List.mem_append.1 hc with g | g
      · exact List.mem_append_left _ (hk.whole.cl c g d hcd)
      · exact List.mem_append_right _ (i3.cl c g d hcd)
noncomputable def fmS (S M : List Int) : List Int := decS (codesL S M S.length)
noncomputable def fmM (S M : List Int) : List Int := decM (codesL S M S.length)
theorem form_plain {S M : List Int} {L : Int} (hs : Shape S M L) {ys : List Dgm} (h : SrtTo ((grpOf M S.length).map (pieOf S M S.length)) ys ys.length) :
    (flO ys).Perm (List.range S.length) ∧ partS S (flO ys) = fmS S M ∧ partM M (flO ys) = fmM S M := by
  have hmo := hs.mates
  have hm : ∀ x, x < 4 * S.length → mt M x < 4 * S.length := fun x hx => hs.mt_lt hx
  have hpG : ∀ G, G ∈ grpOf M S.length → (natO (pieOf S M S.length G).2.1).Perm G ∧ PieOk S M S.length (pieOf S M S.length G) := fun G hG => by
    have hw := grp_whole hmo hG
    obtain ⟨r, hr, e1, e2⟩ := (pie_is S M S.length hw.2).at_
    have hp := ordL_perm hmo hm hG hr
    have e3 : natO (pieOf S M S.length G).2.1 = ordL M r S.length := by rw [e2, natO_nats]
    refine ⟨by rw [e3]; exact hp, ⟨?_, ?_⟩⟩
    · rw [e3, e1]; exact ⟨dec1S_code _ _ _ _, dec1M_code _ _ _ _⟩
    · rw [e3]
      exact ⟨fun c hc => hw.1.lt c (hp.mem_iff.1 hc), hp.nodup_iff.2 hw.1.nd, fun c hc d hcd => hp.mem_iff.2 (hw.1.cl c (hp.mem_iff.1 hc) d hcd)⟩
  have hok : ∀ p, p ∈ ys → PieOk S M S.length p := fun p hp => by
    obtain ⟨G, hG, rfl⟩ := List.mem_map.1 (h.perm.mem_iff.1 hp)
    exact (hpG G hG).2
  have hpw : ((grpOf M S.length).map (pieOf S M S.length)).Pairwise Apart := by
    rw [List.pairwise_map]
    refine List.Pairwise.imp_of_mem (fun {G H} hG hH hne c hc hd => hne ?_) (List.nodup_iff_pairwise_ne.1 (grp_nodup hmo))
    have h1 := (hpG G hG).1.mem_iff.1 hc
    have h2 := (hpG H hH).1.mem_iff.1 hd
    have hl := (grp_whole hmo hG).1.lt c h1
    rw [grp_of hmo hl hG h1, grp_of hmo hl hH h2]
  have hap : ys.Pairwise Apart := (h.perm.symm.pairwise_iff (fun {p q} (g : Apart p q) => fun c hc hd => g c hd hc)).1 hpw
  obtain ⟨f1, f2, f3⟩ := form_list ys hok hap
  have hc := (srtTo_codes h).1
  refine ⟨(List.perm_ext_iff_of_nodup f3.nd List.nodup_range).2 fun c => ⟨fun hc => List.mem_range.2 (f3.lt c hc), fun hc => ?_⟩, ?_, ?_⟩
  · have hc := List.mem_range.1 hc
    have hg := grp_has hmo c hc
    refine List.mem_flatMap.2 ⟨pieOf S M S.length (clsN M S.length c), h.perm.mem_iff.2 (List.mem_map.2 ⟨_, hg, rfl⟩), (hpG _ hg).1.mem_iff.2 (cls_self hc)⟩
  · unfold fmS; rw [f1, hc]
  · unfold fmM; rw [f2, hc]
/-- Pieces can be sorted. -/
theorem srt_some (T : List Dgm) : ∃ ys, SrtTo T ys ys.length := by
  have tr : ∀ a b c : Dgm, decide (pc a b ≤ 0) = true → decide (pc b c ≤ 0) = true → decide (pc a c ≤ 0) = true := fun a b c h g => decide_eq_true (pc_trans (of_decide_eq_true h) (of_decide_eq_true g))
  have tt : ∀ a b : Dgm, (decide (pc a b ≤ 0) || decide (pc b a ≤ 0)) = true := fun a b => by
    rw [Bool.or_eq_true, decide_eq_true_eq, decide_eq_true_eq, pc_swap a b]; omega
  have hs := List.pairwise_mergeSort tr tt T
  refine ⟨T.mergeSort fun a b => decide (pc a b ≤ 0), List.mergeSort_perm _ _, fun p q h1 h2 => ?_⟩
  have := List.pairwise_iff_getElem.1 hs p q (by omega) h2 h1
  have e : ∀ j (hj : j < (T.mergeSort fun a b => decide (pc a b ≤ 0)).length), dg (T.mergeSort fun a b => decide (pc a b ≤ 0)) j = (T.mergeSort fun a b => decide (pc a b ≤ 0))[j] := fun j hj => by
    have := dg_get hj; rw [List.getElem?_eq_getElem hj] at this; exact (Option.some.inj this).symm
  rw [e p (by omega), e q h2]
  exact of_decide_eq_true this
/-- The orders of the first i pieces as numbers. -/
def flY (ys : List Dgm) (i : Nat) : List Int := (ys.take i).flatMap fun p => p.2.1
theorem flY_succ {ys : List Dgm} {i : Nat} (h : i < ys.length) : flY ys (i + 1) = flY ys i ++ (ys.getD i ([], [], 0)).2.1 := by
  unfold flY
  rw [List.take_add_one, getD_some (d := ([], [], 0)) h, List.flatMap_append]; simp
theorem flY_all {S M : List Int} {n : Nat} {ys : List Dgm} (h : SrtTo ((grpOf M n).map (pieOf S M n)) ys ys.length) : flY ys ys.length = nats (flO ys) := by
  unfold flY flO nats
  rw [List.take_length, List.map_flatMap]
  rw [List.flatMap_def, List.flatMap_def]
  congr 1
  refine List.map_congr_left fun p hp => ?_
  obtain ⟨G, hG, rfl⟩ := List.mem_map.1 (h.perm.mem_iff.1 hp)
  obtain ⟨c, hc, rfl⟩ := List.mem_map.1 hG
  obtain ⟨r, hr, e1, e2⟩ := (pie_is S M n (cls_pos (M := M) (n := n) (mem_leadsN.1 hc).1)).at_
  rw [e2, natO_nats]; rfl
theorem flY_few {ys : List Dgm} {k : Nat} (h : ∀ p, p ∈ ys → p.2.1.length ≤ k) : ∀ i, i ≤ ys.length → (flY ys i).length ≤ i * k := fun i => by
  induction i with
  | zero => intro _; simp [flY]
  | succ i ih =>
    intro hi
    have h1 := ih (by omega)
    have h2 := h (ys.getD i ([], [], 0)) (by rw [List.getD_eq_getElem?_getD, List.getElem?_eq_getElem (by omega)]; exact List.getElem_mem _)
    rw [flY_succ (by omega), List.length_append, Nat.add_mul]
    omega
end Go.Proofs.YtmhhjchnjaefhaaDoor

namespace Go.Proofs.YtmhhjchnjaefhaaDoor
open Go Go.RowKit
theorem ct_grp {M : List Int} {n : Nat} (hm : MateOk M n) : CT M n = (grpOf M n).length := by
  unfold CT cnt grpOf leadsN
  rw [List.length_map, List.countP_eq_length_filter]
  congr 1
  refine List.filter_congr fun c hc => ?_
  have hc := List.mem_range.1 hc
  rw [Bool.eq_iff_iff, decide_eq_true_eq, okC_iff]
  constructor
  · intro h d hd hdc
    have := rep_le M (hm.conn_symm (by omega) hdc)
    omega
  · intro h
    have h1 := rep_conn M c
    have h2 : rep M c ≤ c := rep_le M (Conn.refl M c)
    rcases Nat.lt_or_ge (rep M c) c with g | g
    · exact absurd (hm.conn_symm hc h1) (h _ g)
    · omega
theorem faces_len {S M : List Int} {L : Int} (hv : vldB S M L = true) : (facesL M S.length).length = S.length + 2 * (grpOf M S.length).length := by
  obtain ⟨hs, hsp⟩ := vldB_iff.1 hv
  have hm := hs.mates2
  rw [← ct_grp hm.ok, ← (sph_total hm).1 hsp]
  unfold facesL
  rw [cycs_eq hm.inj (fun x hx => perOf_spec hm.inj x hx) _ (fun _ _ => rfl)]
  unfold clTo FT cnt
  rw [List.length_map, List.countP_eq_length_filter]
  simp
theorem grp_pinf (S M : List Int) (n : Nat) : (pinf S M n).length = (grpOf M n).length := by unfold pinf; rw [List.length_map]
theorem codes_grp (S M : List Int) (n : Nat) : (codesL S M n).length = (grpOf M n).length := by
  unfold codesL srtC
  rw [List.length_mergeSort, List.length_map, grp_pinf]
theorem strands_len {S M : List Int} {L : Int} (hv : vldB S M L = true) : (strandsL S M L).length = (leasts S M).length := by
  rw [strandsL_leasts hv, List.length_map]
/-- .. of a renumbered diagram. -/
theorem renum_counts {S M : List Int} {L : Int} (hv : vldB S M L = true) {o : List Nat} (h : o.Perm (List.range S.length)) (hv' : vldB (partS S o) (partM M o) L = true) :
    (facesL (partM M o) S.length).length = (facesL M S.length).length ∧ (strandsL (partS S o) (partM M o) L).length = (strandsL S M L).length ∧ (grpOf (partM M o) S.length).length = (grpOf M S.length).length := by
  have hs := vldB_shape hv
  have hs' := vldB_shape hv'
  have hl : o.length = S.length := by have := h.length_eq; rwa [List.length_range] at this
  have hlS : (partS S o).length = S.length := by rw [partS_len, hl]
  have hg : (grpOf (partM M o) S.length).length = (grpOf M S.length).length := by
    have := (pinf_renum hv h).length_eq
    rw [grp_pinf, grp_pinf] at this
    exact this.symm
  refine ⟨?_, ?_, hg⟩
  · have h1 := faces_len hv
    have h2 := faces_len hv'
    rw [hlS] at h2
    omega
  · rw [strands_len hv, strands_len hv']
    have hi := rn_iso hv (perm_good h)
    rw [rnM_part hs.mates h] at hi
    exact hi.leasts_eq hs hs' hlS
end Go.Proofs.YtmhhjchnjaefhaaDoor

namespace Go.Proofs.YtmhhjchnjaefhaaDoor
open Go Go.RowKit
theorem bsize : (Tryd.prog.info? 58).map (·.size) = some 2 := by kernel_rfl
theorem blies : liesAt Tryd.prog Tryd.prog.depth 58 (2 / Tryd.prog.cellsOf 58) 0 58 1 = true := by kernel_rfl
theorem byteInfo : (Tryd.prog.info? 5).map (fun i => (i.zero, i.size, i.bytes)) = some (some (.int .u8 0), 1, 1) := by kernel_rfl
/-- A builder in block b whose bytes lie from G on. -/
def BAt (G b : Nat) (p : Value) (bs : List Value) (w : World) : Prop := ∃ v, w.heap[b]? = some (.cells #[p, v] 58 (0, 0)) ∧ w.ownsRow G 5 1 v bs.length bs ∧ v.ownBlock ≠ some b
def IsB (G b : Nat) (bs : List Value) (w : World) : Prop := BAt G b (.pointer none) bs w ∨ BAt G b (.pointer (some ⟨b, 0, none⟩)) bs w
/-- The old blocks stay, but for b. -/
structure Kp (G b : Nat) (w w' : World) : Prop where
  os : w'.os = w.os
  tape : w'.tape = w.tape
  output : w'.output = w.output
  size : w.heap.size ≤ w'.heap.size
  block : ∀ i, i < G → i ≠ b → w'.heap[i]? = w.heap[i]?
theorem Kp.refl (G b : Nat) (w : World) : Kp G b w w := ⟨rfl, rfl, rfl, Nat.le_refl _, fun _ _ _ => rfl⟩
theorem Kp.trans {G b : Nat} {w w1 w2 : World} (h : Kp G b w w1) (k : Kp G b w1 w2) : Kp G b w w2 := ⟨k.os.trans h.os, k.tape.trans h.tape, k.output.trans h.output, Nat.le_trans h.size k.size, fun i hi hb => (k.block i hi hb).trans (h.block i hi hb)⟩
theorem Kp.below {G b : Nat} {w w1 w2 : World} (h : Kp G b w w1) (k : Below w1.heap.size w1 w2) (hG : G ≤ w1.heap.size) : Kp G b w w2 := h.trans ⟨k.os, k.tape, k.output, k.size, fun i hi _ => k.block i (by omega)⟩
theorem Kp.set {G b : Nat} {w w1 : World} (h : Kp G b w w1) (i : Nat) (v : Value) : Kp G b w (w1.setCell ⟨b, i, none⟩ v) := h.trans ⟨rfl, rfl, rfl, by simp, fun j _ hb => Below.heap_setCell w1 ⟨b, i, none⟩ v j hb⟩
theorem lt_of_some {w : World} {b : Nat} {x : Obj} (h : w.heap[b]? = some x) : b < w.heap.size := (Array.getElem?_eq_some_iff.1 h).1
theorem BAt.later {G b : Nat} {p : Value} {bs : List Value} {w w' : World} (h : BAt G b p bs w) (hb : Below w.heap.size w w') : BAt G b p bs w' := by
  obtain ⟨v, h1, ⟨h2, h3⟩, h4⟩ := h
  refine ⟨v, (hb.block b (lt_of_some h1)).trans h1, ⟨h2, ?_⟩, h4⟩
  rcases h3 with h3 | ⟨g, cap, cur, e, k1, k2, k3⟩
  · exact .inl h3
  · exact .inr ⟨g, cap, cur, e, k1, (hb.block g (lt_of_some k2)).trans k2, k3⟩
theorem IsB.later {G b : Nat} {bs : List Value} {w w' : World} (h : IsB G b bs w) (hb : Below w.heap.size w w') : IsB G b bs w' := by
  rcases h with h | h
  · exact .inl (h.later hb)
  · exact .inr (h.later hb)
theorem IsB.fresh {G b : Nat} {w : World} (h : w.heap[b]? = some (.cells #[.pointer none, .slice none 0 0] 58 (0, 0))) : IsB G b [] w := .inl ⟨_, h, World.ownsRow_nil _ _ _ _, by simp [Value.ownBlock]⟩
theorem IsB.lib {G b : Nat} {bs : List Value} {w : World} (h : IsB G b bs w) (hb : b ≤ G) : Lib.IsBuilder 58 5 b b bs w := by
  have key : ∀ p, BAt G b p bs w → Lib.BuilderAt 58 5 b b p bs w := fun p ⟨v, h1, ⟨h2, h3⟩, h4⟩ => by
    refine ⟨Nat.le_refl _, v, h1, ⟨h2, ?_⟩, h4⟩
    rcases h3 with h3 | ⟨g, cap, cur, e, k1, k2⟩
    · exact .inl h3
    · exact .inr ⟨g, cap, cur, e, Nat.le_trans hb k1, k2⟩
  rcases h with h | h
  · exact .inl (key _ h)
  · exact .inr (key _ h)
set_option maxRecDepth 100000 in
set_option maxHeartbeats 1000000 in
theorem ccheck_used (b : Nat) (w : World) (h0 : w.cell? ⟨b, 0, none⟩ = some (.pointer (some ⟨b, 0, none⟩))) :
    Calls Tryd.prog 72 #[.pointer (some ⟨b, 0, none⟩)] w fun e w' => e = .returned (.tuple #[]) ∧ w' = w := by
  obtain ⟨j, hj, _⟩ := Option.map_eq_some_iff.1 bsize
  go_enter Tryd.func72, Tryd.ntmps72
  go_wp2_with fail
  rw [Lib.run_neq_ptr_same w _ Tryd.underlying55 hj]
  go_wp2_with fail
  refine bodyPost_end (results_none rfl _ _ _) rfl ?_
  exact ⟨rfl, rfl⟩
set_option maxRecDepth 100000 in
set_option maxHeartbeats 1000000 in
theorem ccheck_fresh (b : Nat) (w : World) (h0 : w.cell? ⟨b, 0, none⟩ = some (.pointer none)) (hsh : w.shape? b = some (58, 2)) (hfz : w.frozen? ⟨b, 0, none⟩ = false) :
    Calls Tryd.prog 72 #[.pointer (some ⟨b, 0, none⟩)] w fun e w' => e = .returned (.tuple #[]) ∧ w' = w.setCell ⟨b, 0, none⟩ (.pointer (some ⟨b, 0, none⟩)) := by
  obtain ⟨j, hj, hjs⟩ := Option.map_eq_some_iff.1 bsize
  go_enter Tryd.func72, Tryd.ntmps72
  go_wp2_with fail
  rw [Lib.run_to_unsafe w ⟨b, 0, none⟩ Tryd.underlying55 Tryd.underlying82 hj (by rw [hjs]; decide) hsh (Nat.zero_lt_succ 1)]
  simp only [Result.andThen]
  rw [Oper.upon_value]
  go_wp2_with fail
  rw [run_callFunc_extern Tryd.func78 (by kernel_rfl) (by kernel_rfl) (by kernel_rfl) (e := Extern.AbiNoEscape.same) (by kernel_rfl)]
  rw [Lib.run_noEscape]
  simp only [Result.andThen]
  rw [Oper.upon_value]
  go_wp2_with fail
  rw [Lib.run_from_unsafe w ⟨b, 0, none⟩ Tryd.underlying82 Tryd.underlying55 hj hsh blies]
  simp only [Result.andThen]
  rw [Oper.upon_value]
  go_wp2_with fail
  refine bodyPost_end (results_none rfl _ _ _) rfl ?_
  exact ⟨rfl, rfl⟩
theorem ccheck_any (G b : Nat) (bs : List Value) (w : World) (h : IsB G b bs w) :
    Calls Tryd.prog 72 #[.pointer (some ⟨b, 0, none⟩)] w fun e w' => e = .returned (.tuple #[]) ∧ (BAt G b (.pointer (some ⟨b, 0, none⟩)) bs w' ∧ Kp G b w w') := by
  have hl : Lib.IsBuilder 58 5 0 b bs w := by
    have key : ∀ p, BAt G b p bs w → Lib.BuilderAt 58 5 0 b p bs w := fun p ⟨v, h1, ⟨h2, h3⟩, h4⟩ => by
      refine ⟨Nat.zero_le _, v, h1, ⟨h2, ?_⟩, h4⟩
      rcases h3 with h3 | ⟨g, cap, cur, e, _, k2⟩
      · exact .inl h3
      · exact .inr ⟨g, cap, cur, e, Nat.zero_le _, k2⟩
    rcases h with h | h
    · exact .inl (key _ h)
    · exact .inr (key _ h)
  rcases h with ⟨v, h1, h2, h3⟩ | h
  · rcases hl with hl | hl
    · refine (ccheck_fresh b w hl.cell0 hl.shape hl.frozen0).mono ?_
      rintro e w' ⟨rfl, rfl⟩
      refine ⟨rfl, ⟨v, ?_, ?_, h3⟩, (Kp.refl G b w).set 0 _⟩
      · have := heap_setCell_same w b 0 _ 58 (.pointer (some ⟨b, 0, none⟩)) h1
        simpa using this
      · obtain ⟨h2, h4⟩ := h2
        refine ⟨h2, ?_⟩
        rcases h4 with h4 | ⟨g, cap, cur, e, k1, k2, k3⟩
        · exact .inl h4
        · refine .inr ⟨g, cap, cur, e, k1, (Below.heap_setCell w ⟨b, 0, none⟩ _ g fun e2 => h3 ?_).trans k2, k3⟩
          have e2 : g = b := e2
          rw [e, ← e2]; rfl
    · exact absurd (hl.cell0.symm.trans (Lib.cell_of_heap h1 0)) (by simp)
  · rcases hl with hl | hl
    · obtain ⟨v, h1, _⟩ := h
      exact absurd (hl.cell0.symm.trans (Lib.cell_of_heap h1 0)) (by simp)
    · refine (ccheck_used b w hl.cell0).mono ?_
      rintro e w' ⟨rfl, rfl⟩
      exact ⟨rfl, h, Kp.refl _ _ _⟩
theorem own_ge {w : World} {G n : Nat} {v : Value} {bs : List Value} (h : w.ownsRow G 5 1 v n bs) {k : Nat} (hk : v.ownBlock = some k) : G ≤ k := by
  rcases h.2 with ⟨e, _⟩ | ⟨g, cap, cur, e, k1, _⟩
  · rw [e] at hk; simp [Value.ownBlock] at hk
  · rw [e] at hk; simp [Value.ownBlock] at hk; omega
theorem own_ne {w : World} {G n b : Nat} {v : Value} {bs : List Value} {cs : Array Value} (h : w.ownsRow G 5 1 v n bs) (hb : w.heap[b]? = some (.cells cs 58 (0, 0))) : v.ownBlock ≠ some b := Lib.ownBlock_ne h hb (by decide)
theorem put_b {w : World} {G b : Nat} {p v v' : Value} {bs : List Value} (hb : w.heap[b]? = some (.cells #[p, v] 58 (0, 0))) (hown : w.ownsRow G 5 1 v' bs.length bs) : BAt G b p bs (w.setCell ⟨b, 1, none⟩ v') := by
  have hne := own_ne hown hb
  refine ⟨v', ?_, ⟨hown.1, ?_⟩, hne⟩
  · have := heap_setCell_same w b 1 _ 58 v' hb
    simpa using this
  · rcases hown.2 with h | ⟨g, cap, cur, e, k1, k2, k3⟩
    · exact .inl h
    · refine .inr ⟨g, cap, cur, e, k1, (Below.heap_setCell w ⟨b, 1, none⟩ _ g fun e2 => hne ?_).trans k2, k3⟩
      have e2 : g = b := e2
      rw [e, ← e2]; rfl
set_option maxRecDepth 100000 in
set_option maxHeartbeats 2000000 in
theorem wstring_any (G b : Nat) (bs : List Value) (s : ByteArray) (w : World) (h : IsB G b bs w) (hlen : bs.length + s.size ≤ 1000000) (hG : G ≤ w.heap.size) :
    Calls Tryd.prog 52 #[.pointer (some ⟨b, 0, none⟩), .string s] w fun e w' => e = .returned (.tuple #[.int .i64 s.size, .nilIface]) ∧ (IsB G b (bs ++ Lib.strCells s) w' ∧ Kp G b w w') := by
  obtain ⟨i0, hi, hz0, hz1, hz2⟩ := info_parts byteInfo
  have HC := Lib.hid (ccheck_any G b bs w h)
  clear h
  go_enter Tryd.func52, Tryd.ntmps52
  go_wp2_with fail
  refine HC.out.mono ?_
  rintro e w1 ⟨rfl, ⟨v, hbk, hown, hne⟩, hk1⟩
  have c0 : w1.cell? ⟨b, 0, none⟩ = some (.pointer (some ⟨b, 0, none⟩)) := by rw [Lib.cell_of_heap hbk]; rfl
  have c1 : w1.cell? ⟨b, 1, none⟩ = some v := by rw [Lib.cell_of_heap hbk]; rfl
  have hs1 := hk1.size
  go_wp2_with (at_builtin; refine Lib.wpList_append_own_string _ rfl _ _ 56 9 rfl G 5 i0 Tryd.underlying56 Tryd.underlying9 hi hz0 hz1 hz2 _ _ _ rfl hown s rfl ?c3 ?c4 ?c5 ?_)
  case c3 => unfold maxLen; omega
  case c4 => omega
  case c5 => omega
  intro v' w2 hown' hgrow _
  have hb2 : w2.heap[b]? = some (.cells #[.pointer (some ⟨b, 0, none⟩), v] 58 (0, 0)) := (hgrow.block b (lt_of_some hbk) (fun e => hne e.symm)).trans hbk
  have d0 : w2.cell? ⟨b, 0, none⟩ = some (.pointer (some ⟨b, 0, none⟩)) := by rw [Lib.cell_of_heap hb2]; rfl
  have d1 : w2.cell? ⟨b, 1, none⟩ = some v := by rw [Lib.cell_of_heap hb2]; rfl
  have f1 : w2.frozen? ⟨b, 1, none⟩ = false := Lib.frozen_of_heap hb2 1
  obtain ⟨ao, n', cap, rfl⟩ : ∃ ao n' cap, v' = .slice ao n' cap := by
    rcases hown'.2 with ⟨hv, _⟩ | ⟨g, cap, cur, hv, _⟩
    · exact ⟨_, _, _, hv⟩
    · exact ⟨_, _, _, hv⟩
  have hput := Lib.hid (put_b (G := G) hb2 (bs := bs ++ Lib.strCells s) (by simpa [Lib.strCells_length] using hown'))
  have hkk : Kp G b w w2 := hk1.trans ⟨hgrow.os, hgrow.tape, hgrow.output, hgrow.size, fun i hi hb => hgrow.block i (by omega) fun e => by have := own_ge hown e.symm; omega⟩
  have hbel := Lib.hid (hkk.set 1 (.slice ao n' cap))
  clear hown' hgrow hown hne hk1 hkk
  go_wp2_with fail
  refine bodyPost_ret (v := .tuple #[.int .i64 s.size, .nilIface]) (by simp [results, Tryd.results52, go_sem]) rfl ?_
  exact ⟨rfl, .inr hput.out, hbel.out⟩
set_option maxRecDepth 100000 in
set_option maxHeartbeats 2000000 in
theorem wbyte_any (G b : Nat) (bs : List Value) (c : Int) (w : World) (h : IsB G b bs w) (hlen : bs.length + 1 ≤ 1000000) (hG : G ≤ w.heap.size) :
    Calls Tryd.prog 51 #[.pointer (some ⟨b, 0, none⟩), .int .u8 c] w fun e w' => e = .returned .nilIface ∧ (IsB G b (bs ++ [.int .u8 c]) w' ∧ Kp G b w w') := by
  obtain ⟨i0, hi, hz0, hz1, hz2⟩ := info_parts byteInfo
  have HC := Lib.hid (ccheck_any G b bs w h)
  clear h
  go_enter Tryd.func51, Tryd.ntmps51
  go_wp2_with fail
  refine HC.out.mono ?_
  rintro e w1 ⟨rfl, ⟨v, hbk, hown, hne⟩, hk1⟩
  have c0 : w1.cell? ⟨b, 0, none⟩ = some (.pointer (some ⟨b, 0, none⟩)) := by rw [Lib.cell_of_heap hbk]; rfl
  have c1 : w1.cell? ⟨b, 1, none⟩ = some v := by rw [Lib.cell_of_heap hbk]; rfl
  have hs1 := hk1.size
  go_wp2_with (at_builtin; refine wpList_append_own _ rfl _ _ 56 rfl G 5 i0 (.int .u8 0) 1 1 Tryd.underlying56 hi hz0 hz1 hz2 rfl (by decide) _ _ _ rfl (hown.alloc _) ⟨w1.heap.size, 0, none⟩ 1 1 [.int .u8 c] rfl rfl ?c1 ?c2 ?c3 ?c4 ?c5 ?_)
  case c1 =>
    intro j u hj
    match j, hj with
    | 0, hj => simp at hj; subst hj; simp [Addr.add]
  case c2 => intro u hu; simp at hu; subst hu; rfl
  case c3 => unfold maxLen; omega
  case c4 => omega
  case c5 => simp; omega
  intro v' w2 hown' hgrow _
  have hlt := lt_of_some hbk
  have hb2 : w2.heap[b]? = some (.cells #[.pointer (some ⟨b, 0, none⟩), v] 58 (0, 0)) := by
    rw [hgrow.block b (by simp; omega) (fun e => hne e.symm), Lib.alloc_old w1 _ b hlt]
    exact hbk
  have d0 : w2.cell? ⟨b, 0, none⟩ = some (.pointer (some ⟨b, 0, none⟩)) := by rw [Lib.cell_of_heap hb2]; rfl
  have d1 : w2.cell? ⟨b, 1, none⟩ = some v := by rw [Lib.cell_of_heap hb2]; rfl
  have f1 : w2.frozen? ⟨b, 1, none⟩ = false := Lib.frozen_of_heap hb2 1
  obtain ⟨ao, n', cap, rfl⟩ : ∃ ao n' cap, v' = .slice ao n' cap := by
    rcases hown'.2 with ⟨hv, _⟩ | ⟨g, cap, cur, hv, _⟩
    · exact ⟨_, _, _, hv⟩
    · exact ⟨_, _, _, hv⟩
  have hput := Lib.hid (put_b (G := G) hb2 (bs := bs ++ [.int .u8 c]) (by simpa using hown'))
  have hkk : Kp G b w w2 := (hk1.below ((Below.refl _ _).alloc (Nat.le_refl _) (.cells #[.int .u8 c] 5)) (by omega)).trans ⟨hgrow.os, hgrow.tape, hgrow.output, hgrow.size, fun i hi hb => hgrow.block i (by simp; omega) fun e => by have := own_ge hown e.symm; omega⟩
  have hbel := Lib.hid (hkk.set 1 (.slice ao n' cap))
  clear hown' hgrow hown hne hk1 hkk
  go_wp2_with fail
  go_ret
  exact ⟨rfl, .inr hput.out, hbel.out⟩
end Go.Proofs.YtmhhjchnjaefhaaDoor

namespace Go.Proofs.YtmhhjchnjaefhaaDoor
open Go Go.RowKit
/-- The code of a diagram, valid or not. -/
noncomputable def cdV (S M : List Int) (L : Int) : List Int := if vldB S M L = true then codeOf S M L else []
theorem cdV_yes {S M : List Int} {L : Int} (h : vldB S M L = true) : cdV S M L = codeOf S M L := if_pos h
theorem cdV_no {S M : List Int} {L : Int} (h : vldB S M L = false) : cdV S M L = [] := if_neg (by rw [h]; decide)
theorem code_any (S M : List Int) (L : Int) (aS aM : Option Addr) (cS cM : Nat) (w : World) (hSl : S.length ≤ 20) (hMl : M.length ≤ 1000000000) (hS : IntsAt w aS S) (hM : IntsAt w aM M) :
    Calls Tryd.prog 25 #[.agg #[.slice aS S.length cS, .slice aM M.length cM, .int .i64 L]] w fun e w' => ∃ a c, e = .returned (.slice a (cdV S M L).length c) ∧ Own w' w.heap.size 3 a c (ints (cdV S M L)) ∧ Below w.heap.size w w' := by
  cases hv : vldB S M L
  · rw [cdV_no hv]
    refine (code_no S M L aS aM cS cM w (by omega) hMl hv hS hM).mono ?_
    rintro e w' ⟨rfl, hb⟩
    exact ⟨none, 0, rfl, Own.nil _ _ _, hb⟩
  · rw [cdV_yes hv]
    exact code_yes S M L aS aM cS cM w hv hSl hS hM
/-- Numbers that a code holds: -1, or from 0 to 99. -/
def Sml (x : Int) : Prop := x = -1 ∨ (0 ≤ x ∧ x < 100)
theorem codeL_sml {S M : List Int} {L : Int} (hs : Shape S M L) (h20 : S.length ≤ 20) {r : Nat} (hr : r < S.length) : ∀ x, x ∈ codeL S M r S.length → Sml x := fun x hx => by
  have hm : ∀ x, x < 4 * S.length → mt M x < 4 * S.length := fun x hx => hs.mt_lt hx
  have ho : ∀ c, c ∈ ordL M r S.length → c < S.length := ordTo_lt hm hr S.length
  have hln : (ordL M r S.length).length ≤ S.length := ordTo_len hm hr S.length
  unfold codeL codeTo at hx
  obtain ⟨j, hj, hx⟩ := List.mem_flatMap.1 hx
  have hj := List.mem_range.1 hj
  have hc := ho _ (getD_mem hj)
  unfold rowC at hx
  rcases List.mem_cons.1 hx with rfl | hx
  · rcases hs.sign _ hc with e | e
    · rw [e]; exact .inr ⟨by decide, by decide⟩
    · rw [e]; exact .inl rfl
  · obtain ⟨s, _, rfl⟩ := List.mem_map.1 hx
    have : (ordL M r S.length).idxOf (mt M (4 * (ordL M r S.length).getD j 0 + s) / 4) ≤ (ordL M r S.length).length := List.idxOf_le_length
    exact .inr ⟨by omega, by omega⟩
theorem codeOf_sml {S M : List Int} {L : Int} (hv : vldB S M L = true) (h20 : S.length ≤ 20) : ∀ x, x ∈ codeOf S M L → Sml x := fun x hx => by
  have hs := vldB_shape hv
  have hlo := hs.lo
  have hhi := hs.hi
  have hcs : ∀ l, l ∈ codesL S M S.length → ∃ r, r < S.length ∧ l = codeL S M r S.length := fun l hl => by
    have hl := (List.mergeSort_perm _ _).mem_iff.1 hl
    obtain ⟨q, hq, rfl⟩ := List.mem_map.1 hl
    obtain ⟨G, hG, rfl⟩ := List.mem_map.1 hq
    obtain ⟨c, hc, rfl⟩ := List.mem_map.1 hG
    obtain ⟨r, hr, e1, _⟩ := (pie_is S M S.length (cls_pos (M := M) (n := S.length) (mem_leadsN.1 hc).1)).at_
    exact ⟨r, (mem_clsN.1 hr).1, e1⟩
  have hn : (codesL S M S.length).length ≤ 20 := by
    unfold codesL srtC pinf
    rw [List.length_mergeSort, List.length_map, List.length_map]
    exact Nat.le_trans (grp_len M S.length) h20
  unfold codeOf encC at hx
  rcases List.mem_cons.1 hx with rfl | hx
  · exact .inr ⟨hlo, by omega⟩
  · rcases List.mem_cons.1 hx with rfl | hx
    · exact .inr ⟨by omega, by omega⟩
    · obtain ⟨c, hc, hx⟩ := List.mem_flatMap.1 hx
      obtain ⟨r, hr, rfl⟩ := hcs c hc
      rcases List.mem_cons.1 hx with rfl | hx
      · have := ordTo_len (M := M) (fun x hx => hs.mt_lt hx) hr S.length
        rw [codeL_len]
        unfold ordL
        exact .inr ⟨by omega, by omega⟩
      · exact codeL_sml hs h20 hr x hx
theorem cdV_sml (S M : List Int) (L : Int) (h20 : S.length ≤ 20) : ∀ x, x ∈ cdV S M L → Sml x := by
  cases hv : vldB S M L
  · rw [cdV_no hv]; intro x h; simp at h
  · rw [cdV_yes hv]; exact codeOf_sml hv h20
theorem cdV_few (S M : List Int) (L : Int) (h20 : S.length ≤ 20) : (cdV S M L).length ≤ 2100 := by
  cases hv : vldB S M L
  · rw [cdV_no hv]; simp
  · rw [cdV_yes hv]; exact codeOf_few2 hv h20
theorem dig_len {u : Nat} (h : u < 100) : (Lib.decDigits u).length ≤ 2 := by
  rw [Lib.decDigits]
  split
  · simp
  · rw [Lib.decDigits, dif_pos (by omega)]
    simp
theorem itoa_len {x : Int} (h : Sml x) : (Lib.itoa x).length ≤ 2 := by
  unfold Lib.itoa
  rcases h with rfl | ⟨h1, h2⟩
  · rw [if_pos (by decide), show (-1 : Int).natAbs = 1 from rfl, Lib.decDigits, dif_pos (by decide)]; simp
  · rw [if_neg (by omega)]; exact dig_len (by omega)
/-- The first i numbers as a text. -/
def keyT (l : List Int) : Nat → List UInt8
  | 0 => []
  | i + 1 => keyT l i ++ (if 0 < i then [44] else []) ++ Lib.itoa (nth l i)
def keyOf (l : List Int) : List UInt8 := keyT l l.length
theorem keyT_len {l : List Int} (h : ∀ x, x ∈ l → Sml x) : ∀ i, i ≤ l.length → (keyT l i).length ≤ 3 * i
  | 0, _ => Nat.le_refl _
  | i + 1, hi => by
    have h1 := keyT_len h i (by omega)
    have h2 := itoa_len (h (nth l i) (nth_mem l i hi))
    rw [keyT, List.length_append, List.length_append]
    split <;> simp <;> omega
theorem cells_app (a b : List UInt8) : Lib.byteCells (a ++ b) = Lib.byteCells a ++ Lib.byteCells b := by simp [Lib.byteCells]
abbrev Pow10 (w : World) : Prop := Lib.TabIs Tryd.prog w "internal/strconv.uint64pow10" .u64 Lib.pow10Tab
theorem Pow10.later {w w' : World} (h : Pow10 w) (hb : Below w.heap.size w w') : Pow10 w' := Lib.tabBelow_of_tabIs h w' hb
theorem itoa_any (x : Int) (h : Sml x) (w : World) (ht : Pow10 w) : Calls Tryd.prog 29 #[.int .i64 x] w fun e w' => e = .returned (.string ⟨(Lib.itoa x).toArray⟩) ∧ Below w.heap.size w w' := by
  refine (Tryd.strconv_Itoa x (by rcases h with rfl | h <;> omega) (by rcases h with rfl | h <;> omega) w ht).mono ?_
  rintro e w' ⟨rfl, k, os, rfl⟩
  exact ⟨rfl, Lib.below_grow _ w (Nat.le_refl _) k os⟩
theorem Kp.low {G b B : Nat} {w w' : World} (h : Kp G b w w') (hb : B ≤ b) (hG : B ≤ G) : Below B w w' := ⟨h.os, h.tape, h.output, h.size, fun i hi => h.block i (by omega) (by omega)⟩
set_option maxRecDepth 100000 in
set_option maxHeartbeats 1000000 in
theorem key_any (S M : List Int) (L : Int) (aS aM : Option Addr) (cS cM : Nat) (w : World) (hSl : S.length ≤ 20) (hMl : M.length ≤ 1000000000) (ht : Pow10 w) (hS : IntsAt w aS S) (hM : IntsAt w aM M) :
    Calls Tryd.prog 24 #[.agg #[.slice aS S.length cS, .slice aM M.length cM, .int .i64 L]] w fun e w' => e = .returned (.string ⟨(keyOf (cdV S M L)).toArray⟩) ∧ Below w.heap.size w w' := by
  have HC : Hid (∀ W', Below w.heap.size w W' → Calls Tryd.prog 25 #[.agg #[.slice aS S.length cS, .slice aM M.length cM, .int .i64 L]] W' fun e w' => ∃ a c, e = .returned (.slice a (cdV S M L).length c) ∧ Own w' W'.heap.size 3 a c (ints (cdV S M L)) ∧ Below W'.heap.size W' w') := Lib.hid fun W' h => code_any S M L aS aM cS cM W' hSl hMl (hS.later h) (hM.later h)
  have HSm := Lib.hid (cdV_sml S M L hSl)
  have hfew := cdV_few S M L hSl
  have HT : Hid (∀ w', Below w.heap.size w w' → Pow10 w') := Lib.hid fun w' h => ht.later h
  have H0 := Lib.hid (((HH.start w).alloc #[.slice aS S.length cS, .slice aM M.length cM, .int .i64 L] 24 rfl rfl).alloc #[.pointer none, .slice none 0 0] 58 (b := w.heap.size + 1) (by simp) rfl)
  clear hS hM ht
  generalize cdV S M L = cd at *
  generalize S.length = n at *
  generalize M.length = N at *
  go_enter Tryd.func24, Tryd.ntmps24
  have k0 := H0.out.cell (k := 0) (i := 0) rfl rfl
  have k1 := H0.out.cell (k := 0) (i := 1) rfl rfl
  have k2 := H0.out.cell (k := 0) (i := 2) rfl rfl
  go_wp2_with fail
  clear k0 k1 k2
  refine (HC.out _ H0.out.below).mono ?_
  rintro e w2 ⟨A, C, rfl, ho, hb⟩
  have H2 := Lib.hid (H0.out.call hb)
  have HA : Hid (∀ i, i < cd.length → ∃ bA oA, A = some ⟨bA, oA, none⟩ ∧ bA < w2.heap.size ∧ bA ≠ w.heap.size + 1 ∧ w2.cell? ⟨bA, oA + i, none⟩ = some (.int .i64 (nth cd i))) := Lib.hid fun i hi => by
    have hI := ho.ints
    obtain ⟨bA, oA, rfl, hl, hc⟩ := hI.open (by omega)
    have h1 := (ho.lt rfl).1
    simp at h1
    exact ⟨bA, oA, rfl, hl, by omega, hc i hi⟩
  have HB0 : Hid (IsB w2.heap.size (w.heap.size + 1) (Lib.byteCells (keyT cd 0)) w2) := Lib.hid (IsB.fresh (H2.out.row (k := 1) rfl))
  have HW : Hid (∀ wr, Kp w2.heap.size (w.heap.size + 1) w2 wr → Below w.heap.size w wr) := Lib.hid fun wr h => H2.out.below.trans (h.low (by omega) H2.out.below.size)
  have hbl := H2.out.lt (x := (w.heap.size + 1, rowO 58 [.pointer none, .slice none 0 0])) (by simp)
  have HL : Hid (w.heap.size + 1 < w2.heap.size) := Lib.hid hbl
  have HN0 : Hid (w.heap.size ≤ w.heap.size + 1) := Lib.hid (Nat.le_succ _)
  clear ho hb HC H0 H2 hbl
  generalize w.heap.size + 1 = b at *
  generalize hG : w2.heap.size = G at *
  have HG := Lib.hid hG
  clear hG
  go_wp2_with fail
  go_loopg [9] cd.length (fun g v wr => ∃ i : Nat, i ≤ cd.length ∧ g = cd.length - i ∧ v = .int .i64 i ∧ Hid (IsB G b (Lib.byteCells (keyT cd i)) wr ∧ Kp G b w2 wr ∧ G ≤ wr.heap.size))
  case atStart => exact ⟨0, Nat.zero_le _, rfl, rfl, Lib.hid ⟨HB0.out, Kp.refl _ _ _, Nat.le_of_eq HG.out.symm⟩⟩
  case round =>
    obtain ⟨i, hi, rfl, rfl, HR⟩ := hrel
    clear HB0
    by_cases hil : i < cd.length
    · obtain ⟨bA, oA, rfl, hl, hne, hc⟩ := HA.out i hil
      have c1 : wr.cell? ⟨bA, oA + i, none⟩ = some (.int .i64 (nth cd i)) := by
        rw [World.cell?_of_block (w := w2) (w' := wr) (a := ⟨bA, oA + i, none⟩) (HR.out.2.1.block bA hl hne)]; exact hc
      have HX := Lib.hid (HSm.out _ (nth_mem cd i hil))
      have hkl := keyT_len HSm.out i hi
      have hxl := itoa_len HX.out
      have HK : Hid (keyT cd (i + 1) = keyT cd i ++ (if 0 < i then [44] else []) ++ Lib.itoa (nth cd i)) := Lib.hid rfl
      clear hc hl hne
      generalize nth cd i = x at *
      by_cases h0 : i = 0
      · have d1 : decide (0 < (i : Int)) = false := decide_eq_false (by omega)
        have d2 : decide (0 < i) = false := decide_eq_false (by omega)
        have d3 : ¬ (0 < (i : Int)) := by omega
        have d4 : ¬ (0 < i) := by omega
        rw [if_neg d4, List.append_nil] at HK
        clear h0
        go_wp2_with fail
        refine (itoa_any x HX.out wr (HT.out _ (HW.out _ HR.out.2.1))).mono ?_
        rintro e w5 ⟨rfl, hb⟩
        have HR5 : Hid (IsB G b (Lib.byteCells (keyT cd i)) w5 ∧ Kp G b w2 w5 ∧ G ≤ w5.heap.size) := Lib.hid ⟨HR.out.1.later hb, HR.out.2.1.below hb HR.out.2.2, Nat.le_trans HR.out.2.2 hb.size⟩
        clear hb HR
        go_wp2_with fail
        refine (wstring_any G b (Lib.byteCells (keyT cd i)) ⟨(Lib.itoa x).toArray⟩ w5 HR5.out.1 (by rw [Lib.byteCells_length]; show _ + (Lib.itoa x).toArray.size ≤ _; rw [List.size_toArray]; omega) HR5.out.2.2).mono ?_
        rintro e w6 ⟨rfl, hb1, hb2⟩
        have HR6 : Hid (IsB G b (Lib.byteCells (keyT cd (i + 1))) w6 ∧ Kp G b w2 w6 ∧ G ≤ w6.heap.size) := Lib.hid ⟨by rw [HK.out, cells_app, ← Lib.strCells_toArray (Lib.itoa x)]; exact hb1, HR5.out.2.1.trans hb2, Nat.le_trans HR5.out.2.2 hb2.size⟩
        clear hb1 hb2 HR5
        go_wp2_with fail
        go_roundg (cd.length - (i + 1))
        case measure => omega
        case rel => exact ⟨i + 1, by omega, rfl, by go_num, HR6⟩
      · have d1 : decide (0 < (i : Int)) = true := decide_eq_true (by omega)
        have d2 : decide (0 < i) = true := decide_eq_true (by omega)
        rw [if_pos (by omega)] at HK
        clear h0
        go_wp2_with fail
        refine (wbyte_any G b (Lib.byteCells (keyT cd i)) 44 wr HR.out.1 (by rw [Lib.byteCells_length]; omega) HR.out.2.2).mono ?_
        rintro e w4 ⟨rfl, hb1, hb2⟩
        have HR4 : Hid (IsB G b (Lib.byteCells (keyT cd i ++ [44])) w4 ∧ Kp G b w2 w4 ∧ G ≤ w4.heap.size) := Lib.hid ⟨by rw [cells_app]; exact hb1, HR.out.2.1.trans hb2, Nat.le_trans HR.out.2.2 hb2.size⟩
        clear hb1 hb2 HR
        go_wp2_with fail
        refine (itoa_any x HX.out w4 (HT.out _ (HW.out _ HR4.out.2.1))).mono ?_
        rintro e w5 ⟨rfl, hb⟩
        have HR5 : Hid (IsB G b (Lib.byteCells (keyT cd i ++ [44])) w5 ∧ Kp G b w2 w5 ∧ G ≤ w5.heap.size) := Lib.hid ⟨HR4.out.1.later hb, HR4.out.2.1.below hb HR4.out.2.2, Nat.le_trans HR4.out.2.2 hb.size⟩
        clear hb HR4
        go_wp2_with fail
        refine (wstring_any G b (Lib.byteCells (keyT cd i ++ [44])) ⟨(Lib.itoa x).toArray⟩ w5 HR5.out.1 (by rw [Lib.byteCells_length, List.length_append]; show _ + (Lib.itoa x).toArray.size ≤ _; rw [List.size_toArray]; simp; omega) HR5.out.2.2).mono ?_
        rintro e w6 ⟨rfl, hb1, hb2⟩
        have HR6 : Hid (IsB G b (Lib.byteCells (keyT cd (i + 1))) w6 ∧ Kp G b w2 w6 ∧ G ≤ w6.heap.size) := Lib.hid ⟨by rw [HK.out, cells_app, ← Lib.strCells_toArray (Lib.itoa x)]; exact hb1, HR5.out.2.1.trans hb2, Nat.le_trans HR5.out.2.2 hb2.size⟩
        clear hb1 hb2 HR5
        go_wp2_with fail
        go_roundg (cd.length - (i + 1))
        case measure => omega
        case rel => exact ⟨i + 1, by omega, rfl, by go_num, HR6⟩
    · obtain rfl : i = cd.length := by omega
      go_wp2_with fail
      refine (Tryd.Builder_String_any b b (keyT cd cd.length) wr (HR.out.1.lib (Nat.le_of_lt HL.out)) (by have := HL.out; have := HR.out.2.2; omega)).mono ?_
      rintro e w3 ⟨rfl, hb3⟩
      have HF : Hid (Below w.heap.size w w3) := Lib.hid ((HW.out _ HR.out.2.1).trans (hb3.mono (HN0.out)))
      clear hb3
      go_wp2_with fail
      go_ret
      exact ⟨rfl, HF.out⟩
end Go.Proofs.YtmhhjchnjaefhaaDoor

