/- Plain: the canonical form is told by the codes of the pieces. Plain: a renumbered diagram has as many faces, strands and parts. diagram.Renumber: what it answers for any diagram and any numbers. The walk of the law CanonIdempotent. Plain: a key tells the numbers of the code; a code tells its pieces. Plain: diagrams of one code are renumberings of one another. Plain: the orders of some crossings, one after the other, until one is refused. law05's beside: two diagrams beside each other; diagram.Valid whatever the number of mates. Appends at a step of a region that draws its order. The reference's In and Factor. -/
import Derived.WalkKit
import Derived.WalkSpells
import Derived.WalkLawsBesides
import Derived.Deep.AppendSrc
import Derived.Deep.LoopGhost
import Derived.Deep.QuietTactic
import Derived.Deep.RegionWith
import Derived.Deep.DeepMust
import Derived.Deep.DeepFit
import Derived.BigQuiet
import Derived.Lib.Hide
import Derived.Outline
import Derived.Test.YtmhhjchnjaefhaaDoorProg
import Derived.Deep.Matrix
import Derived.Deep.DeepCutAuto
import Derived.Deep.RegionLaw
import Derived.Deep.RegionHeld3
import Derived.Lib.SliceRun
import Derived.Shelf.Strings.Builder1
import Derived.Shelf.Small.Wraps
import Derived.Shelf.Strings.BuilderF
import Derived.Shelf.Strings.BuilderK
import Derived.Shelf.Strconv.Itoa0
import Derived.Shelf.Strconv.Itoa1
import Derived.Shelf.LaysM
import Derived.Shelf.Strconv.Itoa2
import Derived.Shelf.Strconv.Itoa3
import Derived.Shelf.Slices.Equal
import Derived.Ground.Names2Prog
import Derived.Shelf.Slices.Clone
import Derived.Shelf.Slices.SearchI
import Derived.Shelf.Slices.Empties2
import Derived.Ground.SlgnProg
import Derived.Shelf.SlicesE.Clone
import Derived.Sort.OwnSortedInts
import Derived.Shelf.Small.Bits
import Derived.Shelf.Sort.Plain
import Derived.Shelf.Slices.Turned
import Derived.Shelf.Slices.CompactI
import Derived.Shelf.Slices.Cells
import Derived.Shelf.Slices.In.SortNone
import Derived.Lib.AppendZeros
import Derived.Deep.RegionHeld
import Derived.Lib.Builder
import Derived.Lib.AppendStr
import Derived.Lib.Walk
import Derived.Laws.Externs
import Derived.Lib.AppendIntMem
import Derived.Test.YtmhhjchnjaefhaaDoorVAa
import Derived.Test.YtmhhjchnjaefhaaDoorVAb
import Derived.Test.YtmhhjchnjaefhaaDoorVAc
import Derived.Test.YtmhhjchnjaefhaaDoorVAd
import Derived.Test.YtmhhjchnjaefhaaDoorVAe
import Derived.Test.YtmhhjchnjaefhaaDoorVAf
import Derived.Test.YtmhhjchnjaefhaaDoorVAg
import Derived.Test.YtmhhjchnjaefhaaDoorVAh
import Derived.Test.YtmhhjchnjaefhaaDoorVAi
import Derived.Test.YtmhhjchnjaefhaaDoorVAj
import Derived.Test.YtmhhjchnjaefhaaDoorVAk
import Derived.Test.YtmhhjchnjaefhaaDoorVAl
import Derived.Test.YtmhhjchnjaefhaaDoorVAm
import Derived.Test.YtmhhjchnjaefhaaDoorVAn
import Derived.Test.YtmhhjchnjaefhaaDoorVAq
import Derived.Test.YtmhhjchnjaefhaaDoorVAo
import Derived.Test.YtmhhjchnjaefhaaDoorVAp
namespace Go.Proofs.YtmhhjchnjaefhaaDoor
open Go Go.RowKit
def dec1S (c : List Int) : List Int := (List.range (c.length / 5)).map fun i => nth c (5 * i)
def dec1M (c : List Int) : List Int := (List.range (4 * (c.length / 5))).map fun k => nth c (5 * (k / 4) + 1 + k % 4)
def decS (cs : List (List Int)) : List Int := cs.flatMap dec1S
def decM : List (List Int) → List Int
  | [] => []
  | c :: cs => uniM (dec1M c) (decM cs)
theorem nth_codeTo (S M : List Int) (o : List Nat) : ∀ i j t, j < i → t < 5 → nth (codeTo S M o i) (5 * j + t) = nth (rowC S M o (o.getD j 0) 4) t
  | 0, j, _, h, _ => by omega
  | i + 1, j, t, h, ht => by
    have hl := codeTo_len S M o i
    rw [codeTo_succ]
    rcases Nat.lt_or_ge j i with g | g
    · rw [nth_append_left _ _ _ (by omega)]
      exact nth_codeTo S M o i j t g ht
    · obtain rfl : j = i := by omega
      rw [nth_append_right _ _ _ (by omega), hl, show 5 * j + t - 5 * j = t by omega]
theorem rowC_nth (S M : List Int) (o : List Nat) (c : Nat) {k s : Nat} (h : s < k) : nth (rowC S M o c k) (1 + s) = ((4 * o.idxOf (mt M (4 * c + s) / 4) + mt M (4 * c + s) % 4 : Nat) : Int) := by
  unfold rowC nth
  rw [List.getD_eq_getElem?_getD, Nat.add_comm, List.getElem?_cons_succ, List.getElem?_map, List.getElem?_range h]
  rfl
theorem dec1S_code (S M : List Int) (r n : Nat) : dec1S (codeL S M r n) = partS S (ordL M r n) := by
  have hl := codeL_len S M r n
  refine ext_nth (by simp [dec1S, partS_len, hl]) fun i hi => ?_
  have hi2 : i < (ordL M r n).length := by
    simp [dec1S, hl] at hi; omega
  rw [partS_nth hi2]
  have e : nth (dec1S (codeL S M r n)) i = nth (codeL S M r n) (5 * i) := by
    unfold dec1S
    rw [show nth ((List.range ((codeL S M r n).length / 5)).map fun i => nth (codeL S M r n) (5 * i)) i = _ from nth_row _ _ _ (by omega)]
  rw [e]
  have := nth_codeTo S M (ordL M r n) (ordL M r n).length i 0 hi2 (by omega)
  exact this
theorem dec1M_code (S M : List Int) (r n : Nat) : dec1M (codeL S M r n) = partM M (ordL M r n) := by
  have hl := codeL_len S M r n
  refine ext_nth (by simp [dec1M, partM_len, hl]) fun k hk => ?_
  have hk2 : k < 4 * (ordL M r n).length := by
    simp [dec1M, hl] at hk; omega
  rw [partM_nth hk2]
  have e : nth (dec1M (codeL S M r n)) k = nth (codeL S M r n) (5 * (k / 4) + 1 + k % 4) := by
    unfold dec1M
    exact nth_row _ _ _ (by omega)
  rw [e]
  have := nth_codeTo S M (ordL M r n) (ordL M r n).length (k / 4) (1 + k % 4) (by omega) (by omega)
  rw [← Nat.add_assoc] at this
  unfold codeL
  rw [this, rowC_nth S M _ _ (by omega)]
  unfold partV idxI
  omega
/-- A piece of a diagram. -/
structure PieOk (S M : List Int) (n : Nat) (p : Dgm) : Prop where
  code : dec1S p.1 = partS S (natO p.2.1) ∧ dec1M p.1 = partM M (natO p.2.1)
  whole : Whole M n (natO p.2.1)
def Apart (p q : Dgm) : Prop := ∀ c, c ∈ natO p.2.1 → c ∉ natO q.2.1
def flO (ys : List Dgm) : List Nat := ys.flatMap fun p => natO p.2.1
theorem form_list {S M : List Int} {n : Nat} : ∀ (ys : List Dgm), (∀ p, p ∈ ys → PieOk S M n p) → ys.Pairwise Apart → partS S (flO ys) = decS (ys.map fun p => p.1) ∧ partM M (flO ys) = decM (ys.map fun p => p.1) ∧ Whole M n (flO ys)
  | [], _, _ => ⟨rfl, rfl, ⟨fun c h => by simp [flO] at h, by simp [flO], fun c h => by simp [flO] at h⟩⟩
  | p :: ys, h, hp => by
    rw [List.pairwise_cons] at hp
    obtain ⟨i1, i2, i3⟩ := form_list ys (fun q hq => h q (List.mem_cons_of_mem _ hq)) hp.2
    have hk := h p List.mem_cons_self
    have e : flO (p :: ys) = natO p.2.1 ++ flO ys := by unfold flO; rw [List.flatMap_cons]
    have hd : ∀ c, c ∈ natO p.2.1 → c ∉ flO ys := fun c hc hf => by
      obtain ⟨q, hq, hcq⟩ := List.mem_flatMap.1 hf
      exact hp.1 q hq c hc hcq
    rw [e]
    refine ⟨?_, ?_, ⟨fun c hc => ?_, ?_, fun c hc d hcd => ?_⟩⟩
    · rw [partS_append, i1, ← hk.code.1, List.map_cons]
      unfold decS
      rw [List.flatMap_cons]
    · rw [← part_union hk.whole i3 hd, i2, ← hk.code.2, List.map_cons]
      rfl
    · rcases List.mem_append.1 hc with g | g
      · exact hk.whole.lt c g
      · exact i3.lt c g
    · rw [List.nodup_append]
      exact ⟨hk.whole.nd, i3.nd, fun a ha b hb e => hd a ha (e ▸ hb)⟩
    · rcases List.mem_append.1 hc with g | g
      · exact List.mem_append_left _ (hk.whole.cl c g d hcd)
      · exact List.mem_append_right _ (i3.cl c g d hcd)
noncomputable def fmS (S M : List Int) : List Int := decS (codesL S M S.length)
noncomputable def fmM (S M : List Int) : List Int := decM (codesL S M S.length)
theorem form_plain {S M : List Int} {L : Int} (hs : Shape S M L) {ys : List Dgm} (h : SrtTo ((grpOf M S.length).map (pieOf S M S.length)) ys ys.length) :
    (flO ys).Perm (List.range S.length) ∧ partS S (flO ys) = fmS S M ∧ partM M (flO ys) = fmM S M := by
  have hmo := hs.mates
  have hm : ∀ x, x < 4 * S.length → mt M x < 4 * S.length := fun x hx => hs.mt_lt hx
  have hpG : ∀ G, G ∈ grpOf M S.length → (natO (pieOf S M S.length G).2.1).Perm G ∧ PieOk S M S.length (pieOf S M S.length G) := fun G hG => by
    have hw := grp_whole hmo hG
    obtain ⟨r, hr, e1, e2⟩ := (pie_is S M S.length hw.2).at_
    have hp := ordL_perm hmo hm hG hr
    have e3 : natO (pieOf S M S.length G).2.1 = ordL M r S.length := by rw [e2, natO_nats]
    refine ⟨by rw [e3]; exact hp, ⟨?_, ?_⟩⟩
    · rw [e3, e1]; exact ⟨dec1S_code _ _ _ _, dec1M_code _ _ _ _⟩
    · rw [e3]
      exact ⟨fun c hc => hw.1.lt c (hp.mem_iff.1 hc), hp.nodup_iff.2 hw.1.nd, fun c hc d hcd => hp.mem_iff.2 (hw.1.cl c (hp.mem_iff.1 hc) d hcd)⟩
  have hok : ∀ p, p ∈ ys → PieOk S M S.length p := fun p hp => by
    obtain ⟨G, hG, rfl⟩ := List.mem_map.1 (h.perm.mem_iff.1 hp)
    exact (hpG G hG).2
  have hpw : ((grpOf M S.length).map (pieOf S M S.length)).Pairwise Apart := by
    rw [List.pairwise_map]
    refine List.Pairwise.imp_of_mem (fun {G H} hG hH hne c hc hd => hne ?_) (List.nodup_iff_pairwise_ne.1 (grp_nodup hmo))
    have h1 := (hpG G hG).1.mem_iff.1 hc
    have h2 := (hpG H hH).1.mem_iff.1 hd
    have hl := (grp_whole hmo hG).1.lt c h1
    rw [grp_of hmo hl hG h1, grp_of hmo hl hH h2]
  have hap : ys.Pairwise Apart := (h.perm.symm.pairwise_iff (fun {p q} (g : Apart p q) => fun c hc hd => g c hd hc)).1 hpw
  obtain ⟨f1, f2, f3⟩ := form_list ys hok hap
  have hc := (srtTo_codes h).1
  refine ⟨(List.perm_ext_iff_of_nodup f3.nd List.nodup_range).2 fun c => ⟨fun hc => List.mem_range.2 (f3.lt c hc), fun hc => ?_⟩, ?_, ?_⟩
  · have hc := List.mem_range.1 hc
    have hg := grp_has hmo c hc
    refine List.mem_flatMap.2 ⟨pieOf S M S.length (clsN M S.length c), h.perm.mem_iff.2 (List.mem_map.2 ⟨_, hg, rfl⟩), (hpG _ hg).1.mem_iff.2 (cls_self hc)⟩
  · unfold fmS; rw [f1, hc]
  · unfold fmM; rw [f2, hc]
/-- Pieces can be sorted. -/
theorem srt_some (T : List Dgm) : ∃ ys, SrtTo T ys ys.length := by
  have tr : ∀ a b c : Dgm, decide (pc a b ≤ 0) = true → decide (pc b c ≤ 0) = true → decide (pc a c ≤ 0) = true := fun a b c h g => decide_eq_true (pc_trans (of_decide_eq_true h) (of_decide_eq_true g))
  have tt : ∀ a b : Dgm, (decide (pc a b ≤ 0) || decide (pc b a ≤ 0)) = true := fun a b => by
    rw [Bool.or_eq_true, decide_eq_true_eq, decide_eq_true_eq, pc_swap a b]; omega
  have hs := List.pairwise_mergeSort tr tt T
  refine ⟨T.mergeSort fun a b => decide (pc a b ≤ 0), List.mergeSort_perm _ _, fun p q h1 h2 => ?_⟩
  have := List.pairwise_iff_getElem.1 hs p q (by omega) h2 h1
  have e : ∀ j (hj : j < (T.mergeSort fun a b => decide (pc a b ≤ 0)).length), dg (T.mergeSort fun a b => decide (pc a b ≤ 0)) j = (T.mergeSort fun a b => decide (pc a b ≤ 0))[j] := fun j hj => by
    have := dg_get hj; rw [List.getElem?_eq_getElem hj] at this; exact (Option.some.inj this).symm
  rw [e p (by omega), e q h2]
  exact of_decide_eq_true this
end Go.Proofs.YtmhhjchnjaefhaaDoor

namespace Go.Proofs.YtmhhjchnjaefhaaDoor
open Go Go.RowKit
theorem ct_grp {M : List Int} {n : Nat} (hm : MateOk M n) : CT M n = (grpOf M n).length := by
  unfold CT cnt grpOf leadsN
  rw [List.length_map, List.countP_eq_length_filter]
  congr 1
  refine List.filter_congr fun c hc => ?_
  have hc := List.mem_range.1 hc
  rw [Bool.eq_iff_iff, decide_eq_true_eq, okC_iff]
  constructor
  · intro h d hd hdc
    have := rep_le M (hm.conn_symm (by omega) hdc)
    omega
  · intro h
    have h1 := rep_conn M c
    have h2 : rep M c ≤ c := rep_le M (Conn.refl M c)
    rcases Nat.lt_or_ge (rep M c) c with g | g
    · exact absurd (hm.conn_symm hc h1) (h _ g)
    · omega
theorem faces_len {S M : List Int} {L : Int} (hv : vldB S M L = true) : (facesL M S.length).length = S.length + 2 * (grpOf M S.length).length := by
  obtain ⟨hs, hsp⟩ := vldB_iff.1 hv
  have hm := hs.mates2
  rw [← ct_grp hm.ok, ← (sph_total hm).1 hsp]
  unfold facesL
  rw [cycs_eq hm.inj (fun x hx => perOf_spec hm.inj x hx) _ (fun _ _ => rfl)]
  unfold clTo FT cnt
  rw [List.length_map, List.countP_eq_length_filter]
  simp
theorem grp_pinf (S M : List Int) (n : Nat) : (pinf S M n).length = (grpOf M n).length := by unfold pinf; rw [List.length_map]
theorem codes_grp (S M : List Int) (n : Nat) : (codesL S M n).length = (grpOf M n).length := by
  unfold codesL srtC
  rw [List.length_mergeSort, List.length_map, grp_pinf]
end Go.Proofs.YtmhhjchnjaefhaaDoor

namespace Go.Proofs.YtmhhjchnjaefhaaDoor
open Go Go.RowKit
theorem renum_yes (S M : List Int) (L : Int) (aS aM : Option Addr) (cS cM : Nat) (aO : Option Addr) (cO : Nat) (o : List Nat) (w : World) (hv : vldB S M L = true) (ho : o.Perm (List.range S.length)) (hS : IntsAt w aS S) (hM : IntsAt w aM M) (hO : IntsAt w aO (nats o)) :
    Calls Tryd.prog 21 #[.agg #[.slice aS S.length cS, .slice aM M.length cM, .int .i64 L], .slice aO (nats o).length cO] w fun e w' => ∃ a b c d, e = .returned (.tuple #[.agg #[.slice a S.length c, .slice b M.length d, .int .i64 L], .int .i64 0]) ∧ Own w' w.heap.size 3 a c (ints (partS S o)) ∧ Own w' w.heap.size 3 b d (ints (partM M o)) ∧ Below w.heap.size w w' := by
  have hs := vldB_shape hv
  have hl : o.length = S.length := by have := ho.length_eq; rwa [List.length_range] at this
  have hOl : (nats o).length = S.length := by rw [nats_length]; exact hl
  have g := renumber_same S M (nats o) L aS aM aO cS cM cO w hv hOl hS hM hO
  rw [hOl]
  refine g.mono ?_
  rintro e w' (⟨hn, _⟩ | ⟨_, a, b, c, d, rfl, h1, h2, hb⟩)
  · exact absurd ⟨hOl, perm_good ho⟩ hn
  · rw [rnS_part hl] at h1 ⊢
    rw [rnM_part hs.mates ho] at h2 ⊢
    refine ⟨a, b, c, d, ?_, h1, h2, hb⟩
    rw [partS_len, partM_len, hl, hs.len]
end Go.Proofs.YtmhhjchnjaefhaaDoor

namespace Go.Proofs.YtmhhjchnjaefhaaDoor
open Go Go.RowKit
/-- The form is a renumbered diagram. -/
theorem fm_perm {S M : List Int} {L : Int} (hv : vldB S M L = true) : ∃ o : List Nat, o.Perm (List.range S.length) ∧ partS S o = fmS S M ∧ partM M o = fmM S M := by
  obtain ⟨ys, hy⟩ := srt_some ((grpOf M S.length).map (pieOf S M S.length))
  exact ⟨flO ys, form_plain (vldB_shape hv) hy⟩
end Go.Proofs.YtmhhjchnjaefhaaDoor

namespace Go.Proofs.YtmhhjchnjaefhaaDoor
open Go Go.RowKit
/-- The number that a numeral tells. -/
def tokD (l : List UInt8) : Int := if l = [45, 49] then -1 else l.foldl (fun a d => 10 * a + ((d.toNat : Int) - 48)) 0
theorem tok_nat : ∀ n : Nat, n < 100 → tokD (itoa2 (n : Int)) = (n : Int) ∧ (44 : UInt8) ∉ itoa2 (n : Int) := by decide +kernel
theorem itoa_m1 : Lib.itoa (-1) = [45, 49] := by
  unfold Lib.itoa
  rw [if_pos (by decide), show (-1 : Int).natAbs = 1 from rfl, dig_one (by decide)]; rfl
theorem tok_itoa {x : Int} (h : Sml x) : tokD (Lib.itoa x) = x ∧ (44 : UInt8) ∉ Lib.itoa x := by
  rcases h with rfl | ⟨h1, h2⟩
  · rw [itoa_m1]; decide +kernel
  · rw [itoa_2 h1 h2]
    have := tok_nat x.toNat (by omega)
    rw [Int.toNat_of_nonneg h1] at this
    exact this
theorem itoa_inj {x y : Int} (hx : Sml x) (hy : Sml y) (h : Lib.itoa x = Lib.itoa y) : x = y := by
  rw [← (tok_itoa hx).1, ← (tok_itoa hy).1, h]
theorem split_at {a b : List UInt8} {r s : List UInt8} (ha : (44 : UInt8) ∉ a) (hb : (44 : UInt8) ∉ b) (h : a ++ 44 :: r = b ++ 44 :: s) : a = b ∧ r = s := by
  induction a generalizing b with
  | nil =>
    cases b with
    | nil => simp at h; exact ⟨rfl, h⟩
    | cons y b => simp at h; exact absurd (by rw [h.1]; exact List.mem_cons_self) hb
  | cons x a ih =>
    cases b with
    | nil => simp at h; exact absurd (by rw [h.1]; exact List.mem_cons_self) ha
    | cons y b =>
      simp at h
      obtain ⟨i1, i2⟩ := ih (fun k => ha (List.mem_cons_of_mem _ k)) (fun k => hb (List.mem_cons_of_mem _ k)) h.2
      exact ⟨by rw [h.1, i1], i2⟩
/-- The key from the front. -/
def keyC : List Int → List UInt8
  | [] => []
  | [x] => Lib.itoa x
  | x :: y :: l => Lib.itoa x ++ 44 :: keyC (y :: l)
theorem keyC_snoc : ∀ (l : List Int) (x : Int), keyC (l ++ [x]) = keyC l ++ (if 0 < l.length then [44] else []) ++ Lib.itoa x
  | [], x => by simp [keyC]
  | [y], x => by simp [keyC]
  | y :: z :: l, x => by
    have ih := keyC_snoc (z :: l) x
    show keyC (y :: z :: (l ++ [x])) = keyC (y :: z :: l) ++ _ ++ _
    rw [keyC, keyC, show z :: (l ++ [x]) = (z :: l) ++ [x] from rfl, ih, if_pos (by simp), if_pos (by simp)]
    simp
theorem keyT_C (l : List Int) : ∀ i, i ≤ l.length → keyT l i = keyC (l.take i)
  | 0, _ => by rw [List.take_zero]; rfl
  | i + 1, h => by
    have e : nth l i = l[i] := by unfold nth; simp [show i < l.length by omega]
    rw [keyT, keyT_C l i (by omega), List.take_add_one, List.getElem?_eq_getElem (by omega), Option.toList_some, keyC_snoc, List.length_take, e]
    congr 2
    by_cases g : 0 < i
    · rw [if_pos g, if_pos (by omega)]
    · rw [if_neg g, if_neg (by omega)]
theorem keyOf_C (l : List Int) : keyOf l = keyC l := by
  unfold keyOf
  rw [keyT_C l _ (Nat.le_refl _), List.take_length]
theorem keyC_inj : ∀ (l m : List Int), (∀ x, x ∈ l → Sml x) → (∀ x, x ∈ m → Sml x) → l ≠ [] → m ≠ [] → keyC l = keyC m → l = m
  | [], _, _, _, h, _, _ => absurd rfl h
  | _, [], _, _, _, h, _ => absurd rfl h
  | [x], [y], hl, hm, _, _, h => by
    rw [itoa_inj (hl x (by simp)) (hm y (by simp)) h]
  | [x], y :: z :: m, hl, _, _, _, h => by
    have := (tok_itoa (hl x (by simp))).2
    rw [keyC, keyC] at h
    exact absurd (by rw [h]; simp) this
  | x :: z :: l, [y], _, hm, _, _, h => by
    have := (tok_itoa (hm y (by simp))).2
    rw [keyC, keyC] at h
    exact absurd (by rw [← h]; simp) this
  | x :: x2 :: l, y :: y2 :: m, hl, hm, _, _, h => by
    rw [keyC, keyC] at h
    obtain ⟨h1, h2⟩ := split_at (tok_itoa (hl x (by simp))).2 (tok_itoa (hm y (by simp))).2 h
    rw [itoa_inj (hl x (by simp)) (hm y (by simp)) h1, keyC_inj (x2 :: l) (y2 :: m) (fun z hz => hl z (List.mem_cons_of_mem _ hz)) (fun z hz => hm z (List.mem_cons_of_mem _ hz)) (by simp) (by simp) h2]
theorem keyOf_inj {l m : List Int} (hl : ∀ x, x ∈ l → Sml x) (hm : ∀ x, x ∈ m → Sml x) (h0 : l ≠ []) (h1 : m ≠ []) (h : keyOf l = keyOf m) : l = m :=
  keyC_inj l m hl hm h0 h1 (by rw [← keyOf_C, ← keyOf_C]; exact h)
theorem codeOf_ne (S M : List Int) (L : Int) : codeOf S M L ≠ [] := by unfold codeOf encC; simp
theorem flat_inj : ∀ (cs ds : List (List Int)), cs.length = ds.length → (∀ c, c ∈ cs → ∃ k, c.length = 5 * k) → (∀ c, c ∈ ds → ∃ k, c.length = 5 * k) → (cs.flatMap fun c => ((c.length / 5 : Nat) : Int) :: c) = (ds.flatMap fun c => ((c.length / 5 : Nat) : Int) :: c) → cs = ds
  | [], [], _, _, _, _ => rfl
  | [], _ :: _, h, _, _, _ => by simp at h
  | _ :: _, [], h, _, _, _ => by simp at h
  | c :: cs, d :: ds, hl, hc, hd, h => by
    rw [List.flatMap_cons, List.flatMap_cons] at h
    obtain ⟨k, hk⟩ := hc c List.mem_cons_self
    obtain ⟨j, hj⟩ := hd d List.mem_cons_self
    simp only [List.cons_append, List.cons.injEq] at h
    have e : c.length = d.length := by have := h.1; omega
    obtain ⟨h1, h2⟩ := List.append_inj h.2 e
    rw [h1, flat_inj cs ds (by simpa using hl) (fun x hx => hc x (List.mem_cons_of_mem _ hx)) (fun x hx => hd x (List.mem_cons_of_mem _ hx)) h2]
theorem codes_five (S M : List Int) (n : Nat) : ∀ c, c ∈ codesL S M n → ∃ k, c.length = 5 * k := fun c hc => by
  have hc := (List.mergeSort_perm _ _).mem_iff.1 hc
  obtain ⟨q, hq, rfl⟩ := List.mem_map.1 hc
  obtain ⟨G, hG, rfl⟩ := List.mem_map.1 hq
  obtain ⟨d, hd, rfl⟩ := List.mem_map.1 hG
  exact ⟨_, pie_len (pie_is S M n (cls_pos (M := M) (n := n) (mem_leadsN.1 hd).1))⟩
theorem code_inj {S M T N : List Int} {L K : Int} (h : codeOf S M L = codeOf T N K) : L = K ∧ codesL S M S.length = codesL T N T.length := by
  unfold codeOf encC at h
  simp only [List.cons.injEq] at h
  exact ⟨h.1, flat_inj _ _ (by have := h.2.1; omega) (codes_five _ _ _) (codes_five _ _ _) h.2.2⟩
def sumI : List Int → Int
  | [] => 0
  | x :: l => x + sumI l
theorem sumI_perm {a b : List Int} (h : a.Perm b) : sumI a = sumI b := by
  induction h with
  | nil => rfl
  | cons x _ ih => rw [sumI, sumI, ih]
  | swap x y l => rw [sumI, sumI, sumI, sumI, ← Int.add_assoc, ← Int.add_assoc, Int.add_comm y x]
  | trans _ _ h1 h2 => rw [h1, h2]
theorem part_perm {S : List Int} {o : List Nat} (h : o.Perm (List.range S.length)) : (partS S o).Perm S := by
  unfold partS
  refine (h.map _).trans (List.Perm.of_eq ?_)
  refine ext_nth (by simp) fun i hi => ?_
  rw [List.length_map, List.length_range] at hi
  exact nth_row _ _ _ hi
/-- Two diagrams of one code. -/
theorem same_code {S M T N : List Int} {L K : Int} (hv : vldB S M L = true) (hw : vldB T N K = true) (h : codeOf S M L = codeOf T N K) :
    L = K ∧ S.length = T.length ∧ sumI S = sumI T ∧ (facesL M S.length).length = (facesL N T.length).length ∧ fmS S M = fmS T N ∧ fmM S M = fmM T N := by
  obtain ⟨h1, h2⟩ := code_inj h
  have e1 : fmS S M = fmS T N := by unfold fmS; rw [h2]
  have e2 : fmM S M = fmM T N := by unfold fmM; rw [h2]
  obtain ⟨o, hp, f1, _⟩ := fm_perm hv
  obtain ⟨p, hq, g1, _⟩ := fm_perm hw
  have p1 := part_perm hp
  have p2 := part_perm hq
  rw [f1] at p1
  rw [g1, ← e1] at p2
  have hl : S.length = T.length := by rw [← p1.length_eq, p2.length_eq]
  refine ⟨h1, hl, by rw [← sumI_perm p1, sumI_perm p2], ?_, e1, e2⟩
  have k1 := codes_grp S M S.length
  have k2 := codes_grp T N T.length
  rw [faces_len hv, faces_len hw, ← k1, ← k2, h2, hl]
end Go.Proofs.YtmhhjchnjaefhaaDoor

namespace Go.Proofs.YtmhhjchnjaefhaaDoor
open Go Go.RowKit
/-- One order behind another one. -/
def cmpO (o p : List Nat) : List Nat := p.map fun i => o.getD i 0
/-- The order backwards. -/
def invO (o : List Nat) (n : Nat) : List Nat := (List.range n).map fun i => o.idxOf i
section
variable {n : Nat} {o : List Nat} (ho : o.Perm (List.range n))
include ho
theorem perm_len : o.length = n := by have := ho.length_eq; rwa [List.length_range] at this
theorem perm_nd : o.Nodup := ho.nodup_iff.2 List.nodup_range
theorem perm_get {i : Nat} (hi : i < n) : o.getD i 0 < n := List.mem_range.1 (ho.mem_iff.1 (getD_mem (by rw [perm_len ho]; exact hi)))
theorem perm_inj (c d : Nat) (hc : c < n) (hd : d < n) (h : o.getD c 0 = o.getD d 0) : c = d := by
  have hl := perm_len ho
  rw [List.getD_eq_getElem?_getD, List.getD_eq_getElem?_getD, List.getElem?_eq_getElem (by omega), List.getElem?_eq_getElem (by omega)] at h
  exact (List.getElem_inj (perm_nd ho)).1 h
theorem perm_idx {c : Nat} (hc : c < n) : o.idxOf c < n ∧ o.getD (o.idxOf c) 0 = c := by
  have hin : c ∈ o := ho.mem_iff.2 (List.mem_range.2 hc)
  have hl : o.idxOf c < o.length := List.idxOf_lt_length_iff.2 hin
  refine ⟨by rw [← perm_len ho]; exact hl, ?_⟩
  rw [List.getD_eq_getElem?_getD, List.getElem?_eq_getElem hl]
  exact List.getElem_idxOf _
theorem cmp_perm {p : List Nat} (hp : p.Perm (List.range n)) : (cmpO o p).Perm (List.range n) := by
  refine nodup_perm_range ?_ (fun c hc => ?_) ?_
  · unfold cmpO
    rw [List.nodup_iff_pairwise_ne, List.pairwise_map]
    exact List.Pairwise.imp_of_mem (fun {a b} ha hb hne e => hne (perm_inj ho a b (List.mem_range.1 (hp.mem_iff.1 ha)) (List.mem_range.1 (hp.mem_iff.1 hb)) e)) (perm_nd hp)
  · obtain ⟨i, hi, rfl⟩ := List.mem_map.1 hc
    exact perm_get ho (List.mem_range.1 (hp.mem_iff.1 hi))
  · unfold cmpO; rw [List.length_map, perm_len hp]
theorem inv_perm : (invO o n).Perm (List.range n) := by
  refine nodup_perm_range ?_ (fun c hc => ?_) (by simp [invO])
  · unfold invO
    rw [List.nodup_iff_pairwise_ne, List.pairwise_map]
    refine List.Pairwise.imp_of_mem (fun {a b} ha hb hne e => hne ?_) List.nodup_range
    have h1 := (perm_idx ho (List.mem_range.1 ha)).2
    have h2 := (perm_idx ho (List.mem_range.1 hb)).2
    rw [← h1, ← h2, e]
  · obtain ⟨i, hi, rfl⟩ := List.mem_map.1 hc
    exact (perm_idx ho (List.mem_range.1 hi)).1
theorem cmp_inv : cmpO o (invO o n) = List.range n := by
  unfold cmpO invO
  rw [List.map_map]
  conv => rhs; rw [← List.map_id (List.range n)]
  refine List.map_congr_left fun i hi => ?_
  exact (perm_idx ho (List.mem_range.1 hi)).2
theorem partS_comp (S : List Int) {p : List Nat} (hp : p.Perm (List.range n)) : partS (partS S o) p = partS S (cmpO o p) := by
  have hl := perm_len ho
  unfold cmpO
  conv => lhs; unfold partS
  conv => rhs; unfold partS
  rw [List.map_map]
  refine List.map_congr_left fun i hi => ?_
  exact partS_nth (by rw [hl]; exact List.mem_range.1 (hp.mem_iff.1 hi))
theorem partM_comp {M : List Int} (hm : MateOk M n) {p : List Nat} (hp : p.Perm (List.range n)) : partM (partM M o) p = partM M (cmpO o p) := by
  have hl := perm_len ho
  have hlp := perm_len hp
  have hlc : (cmpO o p).length = n := by unfold cmpO; rw [List.length_map, hlp]
  refine ext_nth (by rw [partM_len, partM_len, hlp, hlc]) fun k hk => ?_
  rw [partM_len, hlp] at hk
  rw [partM_nth (by omega), partM_nth (by omega)]
  have hpk := perm_get hp (i := k / 4) (by omega)
  have ec : (cmpO o p).getD (k / 4) 0 = o.getD (p.getD (k / 4) 0) 0 := by unfold cmpO; exact getD_map _ (by omega)
  rw [ec]
  generalize p.getD (k / 4) 0 = q at *
  have hoq := perm_get ho hpk
  unfold partV
  have hx : 4 * q + k % 4 < 4 * o.length := by omega
  have e1 : mt (partM M o) (4 * q + k % 4) = 4 * idxI o (mt M (4 * o.getD q 0 + k % 4) / 4) + mt M (4 * o.getD q 0 + k % 4) % 4 := by
    have : mt (partM M o) (4 * q + k % 4) = (nth (partM M o) (4 * q + k % 4)).toNat := rfl
    rw [this, partM_nth hx]
    unfold partV
    rw [show (4 * q + k % 4) / 4 = q by omega, show (4 * q + k % 4) % 4 = k % 4 by omega]
    omega
  have hlt : mt M (4 * o.getD q 0 + k % 4) / 4 < n := by
    have := hm.lt (4 * o.getD q 0 + k % 4) (by omega)
    unfold mt; omega
  rw [e1]
  generalize mt M (4 * o.getD q 0 + k % 4) = m at *
  have hi := perm_idx ho hlt
  rw [show (4 * idxI o (m / 4) + m % 4) / 4 = idxI o (m / 4) by omega, show (4 * idxI o (m / 4) + m % 4) % 4 = m % 4 by omega]
  have e2 : idxI (cmpO o p) (m / 4) = idxI p (idxI o (m / 4)) := by
    unfold idxI cmpO
    have := idx_map (e := fun i => o.getD i 0) (perm_inj ho) hi.1 p (fun c hc => List.mem_range.1 (hp.mem_iff.1 hc))
    show (p.map fun i => o.getD i 0).idxOf (m / 4) = p.idxOf (o.idxOf (m / 4))
    rw [← this]
    congr 1
    exact hi.2.symm
  rw [e2]
end
theorem partS_id (S : List Int) : partS S (List.range S.length) = S := by
  unfold partS
  refine ext_nth (by simp) fun i hi => ?_
  rw [List.length_map, List.length_range] at hi
  exact nth_row _ _ _ hi
theorem partM_id {M : List Int} {n : Nat} (hm : MateOk M n) (hl : M.length = 4 * n) : partM M (List.range n) = M := by
  refine ext_nth (by rw [partM_len, List.length_range, hl]) fun k hk => ?_
  rw [partM_len, List.length_range] at hk
  rw [partM_nth (by rw [List.length_range]; exact hk)]
  have e : (List.range n).getD (k / 4) 0 = k / 4 := by
    rw [List.getD_eq_getElem?_getD, List.getElem?_range (by omega)]; rfl
  rw [e]
  unfold partV
  rw [show 4 * (k / 4) + k % 4 = k by omega]
  have hlt := hm.lt k hk
  have hc : mt M k / 4 < n := by unfold mt; omega
  have ei : idxI (List.range n) (mt M k / 4) = mt M k / 4 := by
    unfold idxI
    have := List.nodup_range.idxOf_getElem (mt M k / 4) (show mt M k / 4 < (List.range n).length by rw [List.length_range]; exact hc)
    rwa [List.getElem_range] at this
  rw [ei]
  unfold mt at *
  omega
/-- One code, just if some order renumbers one into the other. -/
theorem code_iff {S M T N : List Int} {L K : Int} (hv : vldB S M L = true) (hw : vldB T N K = true) :
    codeOf S M L = codeOf T N K ↔ ∃ o : List Nat, o.Perm (List.range S.length) ∧ partS S o = T ∧ partM M o = N ∧ L = K := by
  constructor
  · intro h
    obtain ⟨hL, hl, _, _, f1, f2⟩ := same_code hv hw h
    obtain ⟨o, ho, e1, e2⟩ := fm_perm hv
    obtain ⟨p, hp, g1, g2⟩ := fm_perm hw
    have hs := vldB_shape hv
    have ht := vldB_shape hw
    rw [← hl] at hp
    have hq := inv_perm hp
    refine ⟨cmpO o (invO p S.length), cmp_perm ho hq, ?_, ?_, hL⟩
    · rw [← partS_comp ho S hq, e1, f1, ← g1, partS_comp hp T hq, cmp_inv hp, hl]
      exact partS_id T
    · have hmT : MateOk N S.length := by rw [hl]; exact ht.mates
      rw [← partM_comp ho hs.mates hq, e2, f2, ← g2, partM_comp hp hmT hq, cmp_inv hp]
      exact partM_id hmT (by rw [ht.len, hl])
  · rintro ⟨o, ho, rfl, rfl, rfl⟩
    exact (code_renum hv ho).symm
end Go.Proofs.YtmhhjchnjaefhaaDoor

namespace Go.Proofs.YtmhhjchnjaefhaaDoor
open Go Go.RowKit
/-- The orders that extend l by k crossings. -/
def exts (n : Nat) : Nat → List Nat → List (List Nat)
  | 0, l => [l]
  | k + 1, l => (List.range n).flatMap fun c => if c ∈ l then [] else exts n k (l ++ [c])
section
variable {σ : Type} (n : Nat) (f : σ → List Nat → σ × Bool)
/-- What a run over some orders leaves, and whether it went through. -/
def runL : σ → List (List Nat) → σ × Bool
  | s, [] => (s, true)
  | s, o :: os => if (f s o).2 = true then runL (f s o).1 os else f s o
theorem runL_append : ∀ (a b : List (List Nat)) (s : σ), runL f s (a ++ b) = if (runL f s a).2 = true then runL f (runL f s a).1 b else runL f s a
  | [], b, s => by rw [List.nil_append, runL, if_pos rfl]
  | o :: a, b, s => by
    rw [List.cons_append, runL, runL]
    by_cases h : (f s o).2 = true
    · rw [if_pos h, if_pos h]; exact runL_append a b _
    · rw [if_neg h, if_neg h, if_neg h]
def runStep (g : List Nat → σ → σ × Bool) (l : List Nat) (p : σ × Bool) (c : Nat) : σ × Bool := if p.2 = true ∧ c ∉ l then g (l ++ [c]) p.1 else p
/-- The same, as the program runs. -/
def runX : Nat → List Nat → σ → σ × Bool
  | 0, l, s => f s l
  | k + 1, l, s => (List.range n).foldl (runStep (runX k) l) (s, true)
def runTo (k : Nat) (l : List Nat) (s : σ) (c : Nat) : σ × Bool := (List.range c).foldl (runStep (runX n f k) l) (s, true)
theorem runTo_succ (k : Nat) (l : List Nat) (s : σ) (c : Nat) : runTo n f k l s (c + 1) = runStep (runX n f k) l (runTo n f k l s c) c := by
  unfold runTo
  rw [List.range_succ, List.foldl_append]; rfl
theorem runTo_in {k : Nat} {l : List Nat} {s s' : σ} {c : Nat} (h : runTo n f k l s c = (s', true)) (hc : c ∈ l) : runTo n f k l s (c + 1) = (s', true) := by
  rw [runTo_succ, h, runStep, if_neg fun k => k.2 hc]
theorem runTo_out {k : Nat} {l : List Nat} {s s' : σ} {c : Nat} (h : runTo n f k l s c = (s', true)) (hc : c ∉ l) : runTo n f k l s (c + 1) = runX n f k (l ++ [c]) s' := by
  rw [runTo_succ, h, runStep, if_pos ⟨rfl, hc⟩]
theorem runTo_stop {k : Nat} {l : List Nat} {s s' : σ} {c : Nat} (h : runTo n f k l s c = (s', false)) : ∀ d, runTo n f k l s (c + d) = (s', false)
  | 0 => h
  | d + 1 => by
    rw [← Nat.add_assoc, runTo_succ, runTo_stop h d, runStep, if_neg fun k => by cases k.1]
theorem runX_ext : ∀ (k : Nat) (l : List Nat) (s : σ), runX n f k l s = runL f s (exts n k l)
  | 0, l, s => by
    rw [runX, exts, runL, runL]
    by_cases h : (f s l).2 = true
    · rw [if_pos h, ← h]
    · rw [if_neg h]
  | k + 1, l, s => by
    have key : ∀ c, runTo n f k l s c = runL f s ((List.range c).flatMap fun c => if c ∈ l then [] else exts n k (l ++ [c])) := fun c => by
      induction c with
      | zero => rfl
      | succ c ih =>
        rw [runTo_succ, List.range_succ, List.flatMap_append, runL_append, ← ih, List.flatMap_singleton, runStep]
        by_cases h : (runTo n f k l s c).2 = true
        · rw [if_pos h]
          by_cases hc : c ∈ l
          · rw [if_neg fun k => k.2 hc, if_pos hc, runL, ← h]
          · rw [if_pos ⟨h, hc⟩, if_neg hc, runX_ext k]
        · rw [if_neg h, if_neg fun k => h k.1]
    exact key n
end
theorem mem_exts {n : Nat} : ∀ (k : Nat) (l o : List Nat), o ∈ exts n k l ↔ ∃ d, o = l ++ d ∧ d.length = k ∧ d.Nodup ∧ (∀ c, c ∈ d → c < n ∧ c ∉ l)
  | 0, l, o => by
    rw [exts, List.mem_singleton]
    constructor
    · rintro rfl; exact ⟨[], by simp, rfl, List.nodup_nil, fun c h => by simp at h⟩
    · rintro ⟨d, rfl, h, _⟩
      rw [List.length_eq_zero_iff.1 h, List.append_nil]
  | k + 1, l, o => by
    rw [exts, List.mem_flatMap]
    constructor
    · rintro ⟨c, hc, ho⟩
      by_cases h : c ∈ l
      · rw [if_pos h] at ho; simp at ho
      · rw [if_neg h] at ho
        obtain ⟨d, rfl, h1, h2, h3⟩ := (mem_exts k _ _).1 ho
        refine ⟨c :: d, by simp, by rw [List.length_cons, h1], List.nodup_cons.2 ⟨fun hd => (h3 c hd).2 (by simp), h2⟩, fun x hx => ?_⟩
        rcases List.mem_cons.1 hx with rfl | hx
        · exact ⟨List.mem_range.1 hc, h⟩
        · exact ⟨(h3 x hx).1, fun g => (h3 x hx).2 (List.mem_append_left _ g)⟩
    · rintro ⟨d, rfl, h1, h2, h3⟩
      cases d with
      | nil => simp at h1
      | cons c d =>
        rw [List.nodup_cons] at h2
        have hc := h3 c List.mem_cons_self
        refine ⟨c, List.mem_range.2 hc.1, ?_⟩
        rw [if_neg hc.2]
        refine (mem_exts k _ _).2 ⟨d, by simp, by simpa using h1, h2.2, fun x hx => ⟨(h3 x (List.mem_cons_of_mem _ hx)).1, fun g => ?_⟩⟩
        rcases List.mem_append.1 g with g | g
        · exact (h3 x (List.mem_cons_of_mem _ hx)).2 g
        · rw [List.mem_singleton] at g; subst g; exact h2.1 hx
theorem exts_all {n : Nat} {o : List Nat} : o ∈ exts n n [] ↔ o.Perm (List.range n) := by
  rw [mem_exts]
  constructor
  · rintro ⟨d, e, h1, h2, h3⟩
    rw [List.nil_append] at e
    subst e
    exact nodup_perm_range h2 (fun c hc => (h3 c hc).1) h1
  · intro h
    exact ⟨o, rfl, perm_len h, perm_nd h, fun c hc => ⟨List.mem_range.1 (h.mem_iff.1 hc), by simp⟩⟩
/-- Some order does. -/
theorem runL_any (p : List Nat → Bool) : ∀ os, runL (fun _ o => (p o, !p o)) false os = (os.any p, !os.any p)
  | [] => rfl
  | o :: os => by
    rw [runL, List.any_cons]
    cases h : p o
    · rw [if_pos (by rfl)]
      show runL (fun _ o => (p o, !p o)) false os = _
      rw [runL_any p os]; simp
    · rw [if_neg (by simp)]; simp
end Go.Proofs.YtmhhjchnjaefhaaDoor

namespace Go.Proofs.YtmhhjchnjaefhaaDoor
open Go Go.RowKit
set_option maxRecDepth 100000 in
set_option maxHeartbeats 1000000 in
theorem valid_long (S M : List Int) (L : Int) (aS aM : Option Addr) (cS cM : Nat) (w : World) (hS20 : S.length ≤ 64) (hn : M.length ≠ 4 * S.length) :
    Calls Tryd.prog 18 #[.agg #[.slice aS S.length cS, .slice aM M.length cM, .int .i64 L]] w fun e w' => e = .returned (.bool false) ∧ Below w.heap.size w w' := by
  have t1 : decide ((64 : Int) < (S.length : Int)) = false := decide_eq_false (by omega)
  have t2 : decide (64 < S.length) = false := decide_eq_false (by omega)
  have w1 : IntKind.i64.wrap (4 * (S.length : Int)) = 4 * (S.length : Int) := wrapi_mid (by omega) (by omega)
  have t3 : ((M.length : Int) != 4 * (S.length : Int)) = true := by simp; omega
  have H0 := Lib.hid ((HH.start w).alloc #[.slice aS S.length cS, .slice aM M.length cM, .int .i64 L] 24 rfl rfl)
  clear hn
  generalize S.length = n at *
  generalize M.length = N at *
  go_enter Tryd.func18, Tryd.ntmps18
  have k00 := H0.out.cell (k := 0) (i := 0) rfl rfl
  have k01 := H0.out.cell (k := 0) (i := 1) rfl rfl
  have k02 := H0.out.cell (k := 0) (i := 2) rfl rfl
  go_wp2_with fail
  go_ret
  exact ⟨rfl, H0.out.below⟩
theorem valid_all (S M : List Int) (L : Int) (aS aM : Option Addr) (cS cM : Nat) (w : World) (hS20 : S.length ≤ 20) (hS : IntsAt w aS S) (hM : IntsAt w aM M) :
    Calls Tryd.prog 18 #[.agg #[.slice aS S.length cS, .slice aM M.length cM, .int .i64 L]] w fun e w' => e = .returned (.bool (vldB S M L)) ∧ Below w.heap.size w w' := by
  by_cases h : M.length = 4 * S.length
  · exact valid_any S M L aS aM cS cM w (by omega) (by omega) hS hM
  · rw [vldB_no fun hs => h hs.len]
    exact valid_long S M L aS aM cS cM w (by omega) h
end Go.Proofs.YtmhhjchnjaefhaaDoor

namespace Go.Proofs.YtmhhjchnjaefhaaDoor
open Go Go.RowKit
section
variable {w : World} {ops : Array Oper} {o : Oper} {a : Act}
theorem run_app (W : World) (B : Nat) (ty : TypeId) (A : Option Addr) (c : Nat) (xs : List Int) (hown : Own W B 3 A c (ints xs)) (ax : Option Addr) (cx : Nat) (ys : List Int) (hus : IntsAt W ax ys) (hl : xs.length + ys.length ≤ 1000000) (hB : B ≤ W.heap.size) :
    ∃ A' c' w', (Builtin.append_ #[22, 22] ty #[.slice A xs.length c, .slice ax ys.length cx]).run Tryd.prog W = .ok (.slice A' (xs.length + ys.length) c') w' ∧ Own w' B 3 A' c' (ints (xs ++ ys)) ∧ Turned W w' A ∧ (∀ x, A' = some x → (W.heap.size ≤ x.block ∨ ∃ y, A = some y ∧ x = y)) := by
  obtain ⟨i0, hi0, hz0, hz1, hz2⟩ := info_parts Tryd.info3
  obtain ⟨a', c', w', hrun, r0, r1, r2, r3⟩ := run_append_wide (P := Tryd.prog) W B 22 22 ty 3 i0 (.int .i64 0) 8 1 Tryd.underlying22 Tryd.underlying22 hi0 hz0 hz1 (by decide) hz2 rfl A xs.length c (ints xs) (by rw [ints_length, Nat.mul_one]) (by have := hown.size; rw [ints_length] at this; exact this) (by rw [Nat.mul_one]; exact hown) ax ys.length cx (ints ys) (by rw [ints_length, Nat.mul_one]) hus (fun u hu => by
    obtain ⟨x, _, rfl⟩ := List.mem_map.1 hu; rfl) (by omega) (by omega) hB
  refine ⟨a', c', w', hrun, ?_, r2, r3⟩
  rw [Nat.mul_one] at r1
  have e : ints xs ++ ints ys = ints (xs ++ ys) := by simp only [ints, List.map_append]
  rw [← e]; exact r1
end
end Go.Proofs.YtmhhjchnjaefhaaDoor

namespace Go.Proofs.YtmhhjchnjaefhaaDoor
open Go Go.RowKit
set_option maxRecDepth 100000 in
set_option maxHeartbeats 1000000 in
theorem in_nats (a : Option Addr) (cG : Nat) (G : List Nat) (x : Nat) (w : World) (h1 : G.length ≤ 1000000) (hG : IntsAt w a (nats G)) :
    Calls Tryd.prog 50 #[.slice a G.length cG, .int .i64 (x : Int)] w fun e w' => e = .returned (.bool (decide (x ∈ G))) ∧ w' = w := by
  have HG := Lib.hid hG
  have HX : Hid (∀ j, j < G.length → G.getD j 0 = x → decide (x ∈ G) = true) := Lib.hid fun j hj e => decide_eq_true (by
    rw [← e, List.getD_eq_getElem?_getD, List.getElem?_eq_getElem hj]; exact List.getElem_mem _)
  have HN : Hid ((∀ j, j < G.length → G.getD j 0 ≠ x) → decide (x ∈ G) = false) := Lib.hid fun h => decide_eq_false fun hm => by
    obtain ⟨j, hj, e⟩ := List.getElem_of_mem hm
    refine h j hj ?_
    rw [List.getD_eq_getElem?_getD, List.getElem?_eq_getElem hj, e]; rfl
  clear hG
  generalize decide (x ∈ G) = t at *
  go_enter Tryd.func50, Tryd.ntmps50
  go_wp2_with fail
  go_loopg [5] G.length (fun g v wr => ∃ j : Nat, j ≤ G.length ∧ g = G.length - j ∧ v = .int .i64 j ∧ Hid (∀ k, k < j → G.getD k 0 ≠ x) ∧ wr = w)
  case atStart => exact ⟨0, Nat.zero_le _, rfl, rfl, Lib.hid fun k hk => absurd hk (Nat.not_lt_zero _), rfl⟩
  case round =>
    obtain ⟨j, hj, rfl, rfl, Hk, hw⟩ := hrel
    subst hw
    by_cases hjl : j < G.length
    · obtain ⟨b, off, rfl, _, hc⟩ := HG.out.open (by rw [nats_length]; omega)
      have hcx := hc j (by rw [nats_length]; exact hjl)
      rw [nth_nats _ _ hjl] at hcx
      clear hc
      by_cases e : G.getD j 0 = x
      · have ht := HX.out j hjl e
        subst ht
        rw [e] at hcx
        clear e
        go_wp2_with fail
        go_ret
        exact ⟨rfl, rfl⟩
      · have t1 : (((G.getD j 0 : Nat) : Int) == (x : Int)) = false := by rw [beq_eq_false_iff_ne]; omega
        have Hk2 : Hid (∀ k, k < j + 1 → G.getD k 0 ≠ x) := Lib.hid fun k hk => by
          by_cases g : k = j
          · rw [g]; exact e
          · exact Hk.out k (by omega)
        generalize G.getD j 0 = v at *
        clear e
        go_wp2_with fail
        go_roundg (G.length - (j + 1))
        case measure => omega
        case rel => exact ⟨j + 1, by omega, rfl, by go_num, Lib.hid Hk2.out, rfl⟩
    · obtain rfl : j = G.length := by omega
      have ht := HN.out Hk.out
      subst ht
      go_wp2_with fail
      go_ret
      exact ⟨rfl, rfl⟩
end Go.Proofs.YtmhhjchnjaefhaaDoor


