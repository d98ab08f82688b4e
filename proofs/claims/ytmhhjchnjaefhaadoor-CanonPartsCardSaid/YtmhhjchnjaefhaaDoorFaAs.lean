/- The walk of the law CanonIdempotent. Plain: two diagrams beside each other: their pieces, their code. slices.Clone and diagram.Clone of any slices: the copies are the call's own. law05's beside: two diagrams beside each other; diagram.Valid whatever the number of mates. -/
import Derived.WalkKit
import Derived.WalkSpells
import Derived.WalkLawsBesides
import Derived.Deep.AppendSrc
import Derived.Deep.LoopGhost
import Derived.Deep.QuietTactic
import Derived.Deep.RegionWith
import Derived.Deep.DeepMust
import Derived.Deep.DeepFit
import Derived.BigQuiet
import Derived.Lib.Hide
import Derived.Outline
import Derived.Test.YtmhhjchnjaefhaaDoorProg
import Derived.Deep.Matrix
import Derived.Deep.DeepCutAuto
import Derived.Deep.RegionLaw
import Derived.Deep.RegionHeld3
import Derived.Lib.SliceRun
import Derived.Shelf.Strings.Builder1
import Derived.Shelf.Small.Wraps
import Derived.Shelf.Strings.BuilderF
import Derived.Shelf.Strings.BuilderK
import Derived.Shelf.Strconv.Itoa0
import Derived.Shelf.Strconv.Itoa1
import Derived.Shelf.LaysM
import Derived.Shelf.Strconv.Itoa2
import Derived.Shelf.Strconv.Itoa3
import Derived.Shelf.Slices.Equal
import Derived.Ground.Names2Prog
import Derived.Shelf.Slices.Clone
import Derived.Shelf.Slices.SearchI
import Derived.Shelf.Slices.Empties2
import Derived.Ground.SlgnProg
import Derived.Shelf.SlicesE.Clone
import Derived.Sort.OwnSortedInts
import Derived.Shelf.Small.Bits
import Derived.Shelf.Sort.Plain
import Derived.Shelf.Slices.Turned
import Derived.Shelf.Slices.CompactI
import Derived.Shelf.Slices.Cells
import Derived.Shelf.Slices.In.SortNone
import Derived.Lib.AppendZeros
import Derived.Deep.RegionHeld
import Derived.Lib.Builder
import Derived.Lib.AppendStr
import Derived.Lib.Walk
import Derived.Laws.Externs
import Derived.Lib.AppendIntMem
import Derived.Test.YtmhhjchnjaefhaaDoorFaAa
import Derived.Test.YtmhhjchnjaefhaaDoorFaAb
import Derived.Test.YtmhhjchnjaefhaaDoorFaAc
import Derived.Test.YtmhhjchnjaefhaaDoorFaAd
import Derived.Test.YtmhhjchnjaefhaaDoorFaAe
import Derived.Test.YtmhhjchnjaefhaaDoorFaAf
import Derived.Test.YtmhhjchnjaefhaaDoorFaAg
import Derived.Test.YtmhhjchnjaefhaaDoorFaAh
import Derived.Test.YtmhhjchnjaefhaaDoorFaAi
import Derived.Test.YtmhhjchnjaefhaaDoorFaAj
import Derived.Test.YtmhhjchnjaefhaaDoorFaAk
import Derived.Test.YtmhhjchnjaefhaaDoorFaAl
import Derived.Test.YtmhhjchnjaefhaaDoorFaAm
import Derived.Test.YtmhhjchnjaefhaaDoorFaAn
import Derived.Test.YtmhhjchnjaefhaaDoorFaAo
import Derived.Test.YtmhhjchnjaefhaaDoorFaAp
import Derived.Test.YtmhhjchnjaefhaaDoorFaAq
import Derived.Test.YtmhhjchnjaefhaaDoorFaAr
namespace Go.Proofs.YtmhhjchnjaefhaaDoor
open Go Go.RowKit
/-- The form is a renumbered diagram. -/
theorem fm_perm {S M : List Int} {L : Int} (hv : vldB S M L = true) : ∃ o : List Nat, o.Perm (List.range S.length) ∧ partS S o = fmS S M ∧ partM M o = fmM S M := by
  obtain ⟨ys, hy⟩ := srt_some ((grpOf M S.length).map (pieOf S M S.length))
  exact ⟨flO ys, form_plain (vldB_shape hv) hy⟩
theorem fm_all {S M : List Int} {L : Int} (hv : vldB S M L = true) :
    vldB (fmS S M) (fmM S M) L = true ∧ (fmS S M).length = S.length ∧ (fmM S M).length = M.length ∧ codeOf (fmS S M) (fmM S M) L = codeOf S M L ∧ fmS (fmS S M) (fmM S M) = fmS S M ∧ fmM (fmS S M) (fmM S M) = fmM S M ∧
    (facesL (fmM S M) S.length).length = (facesL M S.length).length ∧ (strandsL (fmS S M) (fmM S M) L).length = (strandsL S M L).length ∧ (grpOf (fmM S M) S.length).length = (grpOf M S.length).length := by
  obtain ⟨o, hp, e1, e2⟩ := fm_perm hv
  obtain ⟨p1, p2, p3, p4, p5, p6, _⟩ := renum_all hv hp
  obtain ⟨c1, c2, c3⟩ := renum_counts hv hp p1
  rw [e1, e2] at p1 p4 p5 p6 c2
  rw [e2] at c1 c3 p3
  rw [e1] at p2
  exact ⟨p1, p2, p3, p4, p5, p6, c1, c2, c3⟩
end Go.Proofs.YtmhhjchnjaefhaaDoor

namespace Go.Proofs.YtmhhjchnjaefhaaDoor
open Go Go.RowKit
section
variable {Sa Ma Sb Mb : List Int} {La Lb : Int} (hva : vldB Sa Ma La = true) (hvb : vldB Sb Mb Lb = true) (hn : Sa.length + Sb.length ≤ 64) (hL : La + Lb ≤ 64)
include hva hvb hn hL
theorem uni_ok : vldB (Sa ++ Sb) (uniM Ma Mb) (La + Lb) = true := uni_valid hva hvb hn (by have := (vldB_shape hva).lo; have := (vldB_shape hvb).lo; omega) hL
theorem uni_pinf : (pinf (Sa ++ Sb) (uniM Ma Mb) (Sa.length + Sb.length)).Perm (pinf Sa Ma Sa.length ++ pinf Sb Mb Sb.length) := by
  have ha := (vldB_shape hva).mates2
  have hb := (vldB_shape hvb).mates2
  have hu := (vldB_shape (uni_ok hva hvb hn hL)).mates
  rw [List.length_append] at hu
  refine pinf_cover (uni_embA hva hvb) (uni_embB hva hvb) ha hb hu (fun c hc => ?_) (fun c d hc hd => ?_) (fun c hc => ?_) (fun c hc => ?_) (by omega) (by omega)
  · rcases Nat.lt_or_ge c Sa.length with g | g
    · exact .inl ⟨c, g, rfl⟩
    · exact .inr ⟨c - Sa.length, by omega, by show Sa.length + (c - Sa.length) = c; omega⟩
  · show c ≠ Sa.length + d
    omega
  · exact nth_append_left _ _ _ hc
  · rw [nth_append_right _ _ _ (by omega), Nat.add_sub_cancel_left]
theorem uni_code : codeOf (Sa ++ Sb) (uniM Ma Mb) (La + Lb) = encC (La + Lb) (srtC ((pinf Sa Ma Sa.length ++ pinf Sb Mb Sb.length).map Prod.fst)) := by
  unfold codeOf
  rw [List.length_append]
  unfold codesL
  rw [srtC_perm ((uni_pinf hva hvb hn hL).map Prod.fst)]
end
/-- The order does not matter; nor does a renumbering of one part; how many pieces. -/
theorem par_all {Sa Ma Sb Mb : List Int} {La Lb : Int} (hva : vldB Sa Ma La = true) (hvb : vldB Sb Mb Lb = true) (hn : Sa.length + Sb.length ≤ 64) (hL : La + Lb ≤ 64) :
    codeOf (Sb ++ Sa) (uniM Mb Ma) (Lb + La) = codeOf (Sa ++ Sb) (uniM Ma Mb) (La + Lb) ∧ codeOf (fmS Sa Ma ++ Sb) (uniM (fmM Sa Ma) Mb) (La + Lb) = codeOf (Sa ++ Sb) (uniM Ma Mb) (La + Lb) ∧
    nth (codeOf (Sa ++ Sb) (uniM Ma Mb) (La + Lb)) 1 = ((grpOf Ma Sa.length).length : Int) + ((grpOf Mb Sb.length).length : Int) ∧ 1 < (codeOf (Sa ++ Sb) (uniM Ma Mb) (La + Lb)).length := by
  obtain ⟨o, hp, e1, e2⟩ := fm_perm hva
  obtain ⟨pv, pl, _⟩ := fm_all hva
  have hx := pinf_renum hva hp
  rw [e1, e2] at hx
  refine ⟨?_, ?_, ?_, ?_⟩
  · rw [uni_code hvb hva (by omega) (by omega), uni_code hva hvb hn hL, Int.add_comm Lb La]
    rw [srtC_perm (List.Perm.map Prod.fst (List.perm_append_comm (l₁ := pinf Sb Mb Sb.length) (l₂ := pinf Sa Ma Sa.length)))]
  · rw [uni_code pv hvb (by omega) hL, uni_code hva hvb hn hL]
    rw [pl]
    rw [srtC_perm ((hx.append_right _).map Prod.fst)]
  · unfold codeOf
    show (((codesL (Sa ++ Sb) (uniM Ma Mb) (Sa ++ Sb).length).length : Nat) : Int) = _
    rw [List.length_append]
    have := (uni_pinf hva hvb hn hL).length_eq
    rw [List.length_append, grp_pinf, grp_pinf, grp_pinf] at this
    rw [codes_grp, this]; omega
  · unfold codeOf encC
    simp
end Go.Proofs.YtmhhjchnjaefhaaDoor

namespace Go.Proofs.YtmhhjchnjaefhaaDoor
open Go Go.RowKit
theorem sclone_all (xs : List Int) (a : Option Addr) (c : Nat) (w : World) (hl : xs.length ≤ 1000000) (hx : IntsAt w a xs) :
    Calls Tryd.prog 56 #[.slice a xs.length c] w fun e w' => ∃ a' c', e = .returned (.slice a' xs.length c') ∧ Own w' w.heap.size 3 a' c' (ints xs) ∧ Below w.heap.size w w' := by
  rcases Nat.eq_zero_or_pos xs.length with h0 | h0
  · obtain rfl := List.eq_nil_of_length_eq_zero h0
    cases a with
    | none =>
      refine (Tryd.slices_Clone_int_nil 0 c w).mono ?_
      rintro e w' ⟨rfl, rfl⟩
      exact ⟨none, 0, rfl, Own.nil _ _ _, Below.refl _ _⟩
    | some x =>
      refine (Tryd.slices_Clone_int_zero x c w).mono ?_
      rintro e w' ⟨v', rfl, ⟨_, h⟩, hne, hb⟩
      rcases h with ⟨h, _⟩ | ⟨g, cap, cur, rfl, h1, h2, _, _, h3, _⟩
      · exact absurd h hne
      · exact ⟨some ⟨g, 0, none⟩, cap, rfl, .inr ⟨g, 0, cur, rfl, h1, h2, Nat.zero_le _, by omega, fun i v hv => by simp [ints] at hv⟩, hb⟩
  · exact sclone_own xs a c w hl h0 hx
set_option maxRecDepth 100000 in
set_option maxHeartbeats 4000000 in
theorem dclone_all (S M : List Int) (L : Int) (aS aM : Option Addr) (cS cM : Nat) (w : World) (hSl : S.length ≤ 1000000) (hMl : M.length ≤ 1000000) (hS : IntsAt w aS S) (hM : IntsAt w aM M) :
    Calls Tryd.prog 32 #[.agg #[.slice aS S.length cS, .slice aM M.length cM, .int .i64 L]] w fun e w' => ∃ a b c d, e = .returned (.agg #[.slice a S.length c, .slice b M.length d, .int .i64 L]) ∧ Own w' w.heap.size 3 a c (ints S) ∧ Own w' w.heap.size 3 b d (ints M) ∧ (∀ p q, a = some p → b = some q → p.block ≠ q.block) ∧ Below w.heap.size w w' := by
  have HS := Lib.hid hS
  have HM := Lib.hid hM
  have HcS : Hid (∀ W', Below w.heap.size w W' → Calls Tryd.prog 56 #[.slice aS S.length cS] W' fun e w' => ∃ a' c', e = .returned (.slice a' S.length c') ∧ Own w' W'.heap.size 3 a' c' (ints S) ∧ Below W'.heap.size W' w') := Lib.hid fun W' h => sclone_all S aS cS W' hSl (hS.later h)
  have HcM : Hid (∀ W', Below w.heap.size w W' → Calls Tryd.prog 56 #[.slice aM M.length cM] W' fun e w' => ∃ a' c', e = .returned (.slice a' M.length c') ∧ Own w' W'.heap.size 3 a' c' (ints M) ∧ Below W'.heap.size W' w') := Lib.hid fun W' h => sclone_all M aM cM W' hMl (hM.later h)
  have H0 := Lib.hid (((HH.start w).alloc #[.slice aS S.length cS, .slice aM M.length cM, .int .i64 L] 24 rfl rfl).alloc #[.slice none 0 0, .slice none 0 0, .int .i64 0] 24 (b := w.heap.size + 1) (by simp) rfl)
  have HKS : Hid (∀ (W' : World) (l : Kn) (s : List SlO), HH w W' ((w.heap.size, rowO 24 [.slice aS S.length cS, .slice aM M.length cM, .int .i64 L]) :: l) s → W'.cell? ⟨w.heap.size, 0, none⟩ = some (.slice aS S.length cS) ∧ W'.cell? ⟨w.heap.size, 1, none⟩ = some (.slice aM M.length cM) ∧ W'.cell? ⟨w.heap.size, 2, none⟩ = some (.int .i64 L)) := Lib.hid fun W' l s h => ⟨h.cell (k := 0) (i := 0) rfl rfl, h.cell (k := 0) (i := 1) rfl rfl, h.cell (k := 0) (i := 2) rfl rfl⟩
  clear hS hM hSl hMl
  go_enter Tryd.func32, Tryd.ntmps32
  go_upto_region 1 with fail
  have Hd := Lib.hid H0.out.drew
  clear H0
  generalize ((w.alloc (.cells #[.slice aS S.length cS, .slice aM M.length cM, .int .i64 L] 24)).alloc (.cells #[.slice none 0 0, .slice none 0 0, .int .i64 0] 24)) = W at *
  have Q0 := Lib.hid (HKS.out _ _ _ Hd.out)
  have hq0 := Q0.out
  go_region_held3 (fun W' => W'.cell? ⟨w.heap.size, 0, none⟩ = some (.slice aS S.length cS) ∧ W'.cell? ⟨w.heap.size, 1, none⟩ = some (.slice aM M.length cM) ∧ W'.cell? ⟨w.heap.size, 2, none⟩ = some (.int .i64 L))
    (first
      | with_reducible exact Q0.out
      | with_reducible exact Q1.out
      | with_reducible exact Q2.out
      | with_reducible exact Q9.out)
    (first
      | ((with_reducible refine (HcS.out _ Hd.out.below).mono ?_); rintro e w1 ⟨a1, c1, rfl, ho1, hb1⟩; have H1 := Lib.hid (Hd.out.addSl hb1 ho1); have Q1 := Lib.hid (HKS.out _ _ _ H1.out); clear ho1 hb1)
      | ((with_reducible refine (HcM.out _ Hd.out.below).mono ?_); rintro e w1 ⟨a2, c2, rfl, ho1, hb1⟩; have H1 := Lib.hid (Hd.out.addSl hb1 ho1); have Q1 := Lib.hid (HKS.out _ _ _ H1.out); clear ho1 hb1)
      | ((with_reducible refine (HcM.out _ H1.out.below).mono ?_); rintro e w2 ⟨a2, c2, rfl, ho2, hb2⟩; have H2 := Lib.hid (H1.out.addSl hb2 ho2); have Q2 := Lib.hid (HKS.out _ _ _ H2.out); clear ho2 hb2; have hd0 := H2.out.cell (k := 1) (i := 0) rfl rfl; have hf0 := H2.out.frozen (k := 1) rfl 0; have hd1 := H2.out.cell (k := 1) (i := 1) rfl rfl; have hf1 := H2.out.frozen (k := 1) rfl 1; have hd2 := H2.out.cell (k := 1) (i := 2) rfl rfl; have hf2 := H2.out.frozen (k := 1) rfl 2; have H9 := Lib.hid (((H2.out.set (k := 1) rfl 0 (.slice a1 S.length c1)).set (k := 1) rfl 1 (.slice a2 M.length c2)).set (k := 1) rfl 2 (.int .i64 L)); have Q9 := Lib.hid (HKS.out _ _ _ H9.out))
      | ((with_reducible refine (HcS.out _ H1.out.below).mono ?_); rintro e w2 ⟨a1, c1, rfl, ho2, hb2⟩; have H2 := Lib.hid (H1.out.addSl hb2 ho2); have Q2 := Lib.hid (HKS.out _ _ _ H2.out); clear ho2 hb2; have hd0 := H2.out.cell (k := 1) (i := 0) rfl rfl; have hf0 := H2.out.frozen (k := 1) rfl 0; have hd1 := H2.out.cell (k := 1) (i := 1) rfl rfl; have hf1 := H2.out.frozen (k := 1) rfl 1; have hd2 := H2.out.cell (k := 1) (i := 2) rfl rfl; have hf2 := H2.out.frozen (k := 1) rfl 2; have H9 := Lib.hid (((H2.out.set (k := 1) rfl 0 (.slice a1 S.length c1)).set (k := 1) rfl 1 (.slice a2 M.length c2)).set (k := 1) rfl 2 (.int .i64 L)); have Q9 := Lib.hid (HKS.out _ _ _ H9.out)))
  all_goals
    clear hd0 hd1 hd2 hf0 hf1 hf2
    have hF0 := H9.out.cell (k := 1) (i := 0) rfl rfl
    have hF1 := H9.out.cell (k := 1) (i := 1) rfl rfl
    have hF2 := H9.out.cell (k := 1) (i := 2) rfl rfl
    go_wp2_with fail
    refine bodyPost_ret (v := .agg #[.slice a1 S.length c1, .slice a2 M.length c2, .int .i64 L]) (by simp [results, Tryd.results32, go_sem, hF0, hF1, hF2]) rfl ?_
    have hp := H9.out.nd2
    simp only [List.nil_append, List.cons_append, List.pairwise_cons, List.mem_cons, List.not_mem_nil, or_false, forall_eq, false_imp_iff, implies_true, List.Pairwise.nil, and_true] at hp
  · exact ⟨_, _, _, _, rfl, H9.out.sl (k := 0) rfl, H9.out.sl (k := 1) rfl, hp, H9.out.below⟩
end Go.Proofs.YtmhhjchnjaefhaaDoor


namespace Go.Proofs.YtmhhjchnjaefhaaDoor
open Go Go.RowKit
set_option maxRecDepth 100000 in
set_option maxHeartbeats 1000000 in
theorem valid_long (S M : List Int) (L : Int) (aS aM : Option Addr) (cS cM : Nat) (w : World) (hS20 : S.length ≤ 64) (hn : M.length ≠ 4 * S.length) :
    Calls Tryd.prog 18 #[.agg #[.slice aS S.length cS, .slice aM M.length cM, .int .i64 L]] w fun e w' => e = .returned (.bool false) ∧ Below w.heap.size w w' := by
  have t1 : decide ((64 : Int) < (S.length : Int)) = false := decide_eq_false (by omega)
  have t2 : decide (64 < S.length) = false := decide_eq_false (by omega)
  have w1 : IntKind.i64.wrap (4 * (S.length : Int)) = 4 * (S.length : Int) := wrapi_mid (by omega) (by omega)
  have t3 : ((M.length : Int) != 4 * (S.length : Int)) = true := by simp; omega
  have H0 := Lib.hid ((HH.start w).alloc #[.slice aS S.length cS, .slice aM M.length cM, .int .i64 L] 24 rfl rfl)
  clear hn
  generalize S.length = n at *
  generalize M.length = N at *
  go_enter Tryd.func18, Tryd.ntmps18
  have k00 := H0.out.cell (k := 0) (i := 0) rfl rfl
  have k01 := H0.out.cell (k := 0) (i := 1) rfl rfl
  have k02 := H0.out.cell (k := 0) (i := 2) rfl rfl
  go_wp2_with fail
  go_ret
  exact ⟨rfl, H0.out.below⟩
theorem valid_all (S M : List Int) (L : Int) (aS aM : Option Addr) (cS cM : Nat) (w : World) (hS20 : S.length ≤ 20) (hS : IntsAt w aS S) (hM : IntsAt w aM M) :
    Calls Tryd.prog 18 #[.agg #[.slice aS S.length cS, .slice aM M.length cM, .int .i64 L]] w fun e w' => e = .returned (.bool (vldB S M L)) ∧ Below w.heap.size w w' := by
  by_cases h : M.length = 4 * S.length
  · exact valid_any S M L aS aM cS cM w (by omega) (by omega) hS hM
  · rw [vldB_no fun hs => h hs.len]
    exact valid_long S M L aS aM cS cM w (by omega) h
/-- The first i mates of the second diagram appended. -/
def uniP (A B : List Int) (i : Nat) : List Int := A ++ (B.take i).map fun m => (A.length : Int) + m
theorem uniP_succ {A B : List Int} {i : Nat} (h : i < B.length) : uniP A B (i + 1) = uniP A B i ++ [(A.length : Int) + nth B i] := by
  unfold uniP
  rw [List.take_add_one, List.getElem?_eq_getElem h, List.map_append, List.append_assoc]
  have : nth B i = B[i] := by unfold nth; simp [h]
  rw [this]; rfl
theorem uniP_len (A B : List Int) {i : Nat} (h : i ≤ B.length) : (uniP A B i).length = A.length + i := by
  unfold uniP
  rw [List.length_append, List.length_map, List.length_take]; omega
theorem HH.addSl2 {w0 w w' : World} {l : Kn} {s : List SlO} (h : HH w0 w l s) (hb : Below w.heap.size w w') {a a' : Option Addr} {c c' : Nat} {E E' : TypeId} {vs vs' : List Value} (h1 : Own w' w.heap.size E a c vs) (h2 : Own w' w.heap.size E' a' c' vs') (hne : ∀ p q, a = some p → a' = some q → p.block ≠ q.block) :
    HH w0 w' l (s ++ [⟨a, c, E, vs⟩, ⟨a', c', E', vs'⟩]) := by
  have g := h.addSl hb h1
  refine ⟨g.below, g.blk, fun x hx => ?_, g.nd1, ?_, fun x hx y hy q hq => ?_⟩
  · simp only [List.mem_append, List.mem_cons, List.not_mem_nil, or_false] at hx
    rcases hx with hx | rfl | rfl
    · exact g.own x (by simp [hx])
    · exact g.own _ (by simp)
    · exact h2.mono h.below.size
  · rw [show s ++ [⟨a, c, E, vs⟩, ⟨a', c', E', vs'⟩] = (s ++ [⟨a, c, E, vs⟩]) ++ [⟨a', c', E', vs'⟩] by simp, List.pairwise_append]
    refine ⟨g.nd2, List.pairwise_singleton _ _, fun x hx y hy p q hp hq => ?_⟩
    obtain rfl := List.mem_singleton.1 hy
    rcases List.mem_append.1 hx with e | e
    · have k1 := ((h.own x e).lt hp).2
      have k2 := (h2.lt hq).1
      omega
    · obtain rfl := List.mem_singleton.1 e
      exact hne p q hp hq
  · simp only [List.mem_append, List.mem_cons, List.not_mem_nil, or_false] at hy
    rcases hy with hy | rfl | rfl
    · exact g.nd3 x hx y (by simp [hy]) q hq
    · exact g.nd3 x hx _ (by simp) q hq
    · have k1 := h.lt hx
      have k2 := (h2.lt hq).1
      omega
set_option maxRecDepth 100000 in
set_option maxHeartbeats 1000000 in
theorem beside_any (Sa Ma : List Int) (La : Int) (aSa aMa : Option Addr) (cSa cMa : Nat) (Sb Mb : List Int) (Lb : Int) (aSb aMb : Option Addr) (cSb cMb : Nat) (w : World) (hva : vldB Sa Ma La = true) (hvb : vldB Sb Mb Lb = true) (hSa : IntsAt w aSa Sa) (hMa : IntsAt w aMa Ma) (hSb : IntsAt w aSb Sb) (hMb : IntsAt w aMb Mb) :
    Calls Tryd.prog 35 #[.agg #[.slice aSa Sa.length cSa, .slice aMa Ma.length cMa, .int .i64 La], .agg #[.slice aSb Sb.length cSb, .slice aMb Mb.length cMb, .int .i64 Lb]] w fun e w' => ∃ a b c d, e = .returned (.agg #[.slice a (Sa.length + Sb.length) c, .slice b (Ma.length + Mb.length) d, .int .i64 (La + Lb)]) ∧ Own w' w.heap.size 3 a c (ints (Sa ++ Sb)) ∧ Own w' w.heap.size 3 b d (ints (uniM Ma Mb)) ∧ Below w.heap.size w w' := by
  have hsa := vldB_shape hva
  have hsb := vldB_shape hvb
  have hna := hsa.few
  have hnb := hsb.few
  have hNa : Ma.length ≤ 256 := by have := hsa.len; omega
  have hNb : Mb.length ≤ 256 := by have := hsb.len; omega
  have hLa1 := hsa.lo
  have hLa2 := hsa.hi
  have hLb1 := hsb.lo
  have hLb2 := hsb.hi
  have HCl : Hid (∀ W', Below w.heap.size w W' → Calls Tryd.prog 32 #[.agg #[.slice aSa Sa.length cSa, .slice aMa Ma.length cMa, .int .i64 La]] W' fun e w' => ∃ a b c d, e = .returned (.agg #[.slice a Sa.length c, .slice b Ma.length d, .int .i64 La]) ∧ Own w' W'.heap.size 3 a c (ints Sa) ∧ Own w' W'.heap.size 3 b d (ints Ma) ∧ (∀ p q, a = some p → b = some q → p.block ≠ q.block) ∧ Below W'.heap.size W' w') := Lib.hid fun W' h => dclone_all Sa Ma La aSa aMa cSa cMa W' (by omega) (by omega) (hSa.later h) (hMa.later h)
  have HMb : Hid (∀ i, i < Mb.length → 0 ≤ nth Mb i ∧ nth Mb i ≤ 256) := Lib.hid fun i hi => by
    have := hsb.range i (by rw [hsb.len] at hi; exact hi)
    omega
  have HU0 : Hid (uniP Ma Mb 0 = Ma) := Lib.hid (by unfold uniP; simp)
  have HUs : Hid (∀ i, i < Mb.length → uniP Ma Mb (i + 1) = uniP Ma Mb i ++ [(Ma.length : Int) + nth Mb i]) := Lib.hid fun i h => uniP_succ h
  have HUl : Hid (∀ i, i ≤ Mb.length → (uniP Ma Mb i).length = Ma.length + i) := Lib.hid fun i h => uniP_len Ma Mb h
  have HUe : Hid (uniP Ma Mb Mb.length = uniM Ma Mb) := Lib.hid (by unfold uniP uniM; rw [List.take_length])
  have HSb := Lib.hid hSb
  have HMbI := Lib.hid hMb
  have HX : Hid ((ints Sa).length = Sa.length * 1 ∧ (ints Sb).length = Sb.length * 1) := Lib.hid ⟨by rw [ints_length, Nat.mul_one], by rw [ints_length, Nat.mul_one]⟩
  obtain ⟨i0, hi0, hz0, hz1, hz2⟩ := info_parts Tryd.info3
  have H0 := Lib.hid ((((HH.start w).alloc #[.slice aSa Sa.length cSa, .slice aMa Ma.length cMa, .int .i64 La] 24 rfl rfl).alloc #[.slice aSb Sb.length cSb, .slice aMb Mb.length cMb, .int .i64 Lb] 24 (b := w.heap.size + 1) (by simp) rfl).alloc #[.slice none 0 0, .slice none 0 0, .int .i64 0] 24 (b := w.heap.size + 2) (by simp) rfl)
  clear hva hvb hSa hMa hSb hMb hsa hsb
  generalize hPe : uniM Ma Mb = UM at *
  clear hPe
  generalize hPu : (fun i => uniP Ma Mb i) = UP at *
  have HUP : Hid (∀ i, uniP Ma Mb i = UP i) := Lib.hid fun i => by rw [← hPu]
  simp only [HUP.out] at HU0 HUs HUl HUe
  clear hPu HUP
  generalize Sa.length = na at *
  generalize Sb.length = nb at *
  generalize Ma.length = Na at *
  go_enter Tryd.func35, Tryd.ntmps35
  have k00 := H0.out.cell (k := 0) (i := 0) rfl rfl
  have k01 := H0.out.cell (k := 0) (i := 1) rfl rfl
  have k02 := H0.out.cell (k := 0) (i := 2) rfl rfl
  go_wp2_with fail
  clear k00 k01 k02
  refine (HCl.out _ H0.out.below).mono ?_
  rintro e w1 ⟨a5, b5, c5, d5, rfl, ho1, ho2, hne, hb⟩
  have H1a := Lib.hid (H0.out.addSl2 hb ho1 ho2 hne)
  clear ho1 ho2 hne hb H0 HCl
  have H1 := Lib.hid (H1a.out.alloc #[.slice a5 na c5, .slice b5 Na d5, .int .i64 La] 24 (b := w1.heap.size) rfl rfl)
  have y0 := H1a.out.cell (k := 1) (i := 1) rfl rfl
  go_upto_region 2 with fail
  clear y0 H1a
  generalize w1.alloc (.cells #[.slice a5 na c5, .slice b5 Na d5, .int .i64 La] 24) = v1 at *
  generalize w1.heap.size = q5 at *
  have y0 := H1.out.cell (k := 1) (i := 1) rfl rfl
  rw [← HU0.out] at H1
  go_wp2_with fail
  clear y0
  go_loopg [13] Mb.length (fun g v wr => ∃ (i : Nat) (A2 : Option Addr) (d2 : Nat), i ≤ Mb.length ∧ g = Mb.length - i ∧ v = .int .i64 i ∧ HH w wr [(w.heap.size, rowO 24 [.slice aSa na cSa, .slice aMa Na cMa, .int .i64 La]), (w.heap.size + 1, rowO 24 [.slice aSb nb cSb, .slice aMb Mb.length cMb, .int .i64 Lb]), (w.heap.size + 2, rowO 24 [.slice none 0 0, .slice none 0 0, .int .i64 0]), (q5, rowO 24 [.slice a5 na c5, .slice A2 (Na + i) d2, .int .i64 La])] [⟨a5, c5, 3, ints Sa⟩, ⟨A2, d2, 3, ints (UP i)⟩])
  case atStart => exact ⟨0, b5, d5, Nat.zero_le _, rfl, rfl, H1.out⟩
  case round =>
    obtain ⟨i, A2, d2, hi, rfl, rfl, hh⟩ := hrel
    have Jr := Lib.hid hh
    clear hh H1
    by_cases hil : i < Mb.length
    · obtain ⟨bm, om, hab, _, hcm⟩ := (Jr.out.came HMbI.out).open (by omega)
      have c1 := hcm i hil
      subst hab
      obtain ⟨hm1, hm2⟩ := HMb.out i hil
      have HU1 := Lib.hid (HUs.out i hil)
      have HL := Lib.hid (HUl.out i hi)
      clear hcm
      generalize nth Mb i = m at *
      have w1 : IntKind.i64.wrap ((Na : Int) + m) = (Na : Int) + m := wrapi_mid (by omega) (by omega)
      have Ja := Lib.hid (Jr.out.call ((Below.refl _ _).alloc (Nat.le_refl _) (.cells #[.int .i64 ((Na : Int) + m)] 3)))
      have Hc0 : Hid ((wr.alloc (.cells #[.int .i64 ((Na : Int) + m)] 3)).cell? ⟨wr.heap.size, 0, none⟩ = some (.int .i64 ((Na : Int) + m))) := Lib.hid ((Row.new wr #[.int .i64 ((Na : Int) + m)] 3).cell 0)
      have Hl1 := Lib.hid Ja.out.below.size
      have Hln : Hid ((ints (UP i)).length = Na + i) := Lib.hid (by rw [ints_length]; exact HL.out)
      have y0 := Jr.out.cell (k := 0) (i := 1) rfl rfl
      have y3 := Jr.out.cell (k := 3) (i := 1) rfl rfl
      go_wp2_with (with_reducible refine wpList_append_one rfl (.tmp 18) (.tmp 24) 22 rfl w.heap.size 3 i0 (.int .i64 0) 8 Tryd.underlying22 hi0 hz0 hz1 hz2 rfl A2 (Na + i) d2 (ints (UP i)) rfl Hln.out (Ja.out.sl (k := 1) rfl) _ 1 (.int .i64 ((Na : Int) + m)) rfl Hc0.out rfl (by omega) (by omega) Hl1.out ?_; intro A3 e3 w7 hO2 hT2 hA2; have H8 := Lib.hid (Ja.out.grow (k := 1) rfl hO2 hT2 hA2); have hcg := H8.out.cell (k := 3) (i := 1) rfl rfl; have hfg := H8.out.frozen (k := 3) rfl 1; clear hO2 hT2 hA2)
      have H9 := Lib.hid (H8.out.set (k := 3) rfl 1 (.slice A3 (Na + i + 1) e3))
      go_roundg (Mb.length - (i + 1))
      case measure => omega
      case rel =>
        refine ⟨i + 1, A3, e3, by omega, rfl, by go_num, ?_⟩
        rw [HU1.out, ← ints_snoc]
        exact H9.out
    · obtain rfl : i = Mb.length := by omega
      rw [HUe.out] at Jr
      clear HUs HUl HMb HU0
      generalize hNe : Mb.length = Nb at *
      have HNe := Lib.hid hNe
      clear hNe
      have Hus : Hid (VAt wr aSb (ints Sb)) := Lib.hid (Jr.out.came HSb.out)
      have Hu1 : Hid (∀ u ∈ ints Sb, u.oneCell' = true) := Lib.hid (by
        intro u hu
        obtain ⟨x, _, rfl⟩ := List.mem_map.1 hu
        rfl)
      have Hl1 := Lib.hid Jr.out.below.size
      have HO1 : Hid (Own wr w.heap.size 3 a5 (c5 * 1) (ints Sa)) := Lib.hid (by rw [Nat.mul_one]; exact Jr.out.sl (k := 0) rfl)
      have hdc : na ≤ c5 := by have := HO1.out.size; have := HX.out.1; omega
      have Hzc : Hid ((Value.int .i64 0).cells.size = 1) := Lib.hid rfl
      have y0 := Jr.out.cell (k := 3) (i := 0) rfl rfl
      have y1 := Jr.out.cell (k := 1) (i := 0) rfl rfl
      have w2 : IntKind.i64.wrap (La + Lb) = La + Lb := wrapi_mid (by omega) (by omega)
      have HGr : Hid (∀ (A7 : Option Addr) (e7 : Nat) (w8 : World), Own w8 w.heap.size 3 A7 (e7 * 1) (ints Sa ++ ints Sb) → Turned wr w8 a5 → (∀ x, A7 = some x → (wr.heap.size ≤ x.block ∨ ∃ y, a5 = some y ∧ x = y)) → HH w w8 [(w.heap.size, rowO 24 [.slice aSa na cSa, .slice aMa Na cMa, .int .i64 La]), (w.heap.size + 1, rowO 24 [.slice aSb nb cSb, .slice aMb Nb cMb, .int .i64 Lb]), (w.heap.size + 2, rowO 24 [.slice none 0 0, .slice none 0 0, .int .i64 0]), (q5, rowO 24 [.slice a5 na c5, .slice A2 (Na + Nb) d2, .int .i64 La])] [⟨A7, e7, 3, ints Sa ++ ints Sb⟩, ⟨A2, d2, 3, ints UM⟩]) := Lib.hid fun A7 e7 w8 h1 h2 h3 => by
        rw [Nat.mul_one] at h1
        exact Jr.out.grow (k := 0) rfl h1 h2 h3
      go_upto_region 8 with (with_reducible refine wpList_append_wide rfl (.tmp 29) (.tmp 31) 22 22 rfl w.heap.size 3 i0 _ 8 1 Tryd.underlying22 Tryd.underlying22 hi0 hz0 hz1 (by decide) hz2 Hzc.out a5 na c5 (ints Sa) rfl HX.out.1 hdc HO1.out aSb nb cSb (ints Sb) rfl HX.out.2 Hus.out Hu1.out (by omega) (by omega) Hl1.out ?_; intro A7 e7 w8 hle hO7 hT7 hA7; have H8 := Lib.hid (HGr.out A7 e7 w8 hO7 hT7 hA7); have hcg := H8.out.cell (k := 3) (i := 0) rfl rfl; have hfg := H8.out.frozen (k := 3) rfl 0; clear hO7 hT7 hA7)
      have H9 := Lib.hid (H8.out.set (k := 3) rfl 0 (.slice A7 (na + nb) e7))
      clear hcg hfg H8 Jr y0 y1
      generalize w8.setCell ⟨q5, 0, none⟩ (.slice A7 (na + nb) e7) = v9 at *
      have y3 := H9.out.cell (k := 3) (i := 2) rfl rfl
      have y4 := H9.out.cell (k := 1) (i := 2) rfl rfl
      have f3 := H9.out.frozen (k := 3) rfl 2
      go_upto_region 9 with fail
      have H10 := Lib.hid (H9.out.set (k := 3) rfl 2 (.int .i64 (La + Lb)))
      clear y3 y4 f3 H9
      generalize v9.setCell ⟨q5, 2, none⟩ (.int .i64 (La + Lb)) = v10 at *
      have y0 := H10.out.cell (k := 3) (i := 0) rfl rfl
      have y1 := H10.out.cell (k := 3) (i := 1) rfl rfl
      have y2 := H10.out.cell (k := 3) (i := 2) rfl rfl
      have f0 := H10.out.frozen (k := 2) rfl 0
      have f1 := H10.out.frozen (k := 2) rfl 1
      have f2 := H10.out.frozen (k := 2) rfl 2
      have z0 := H10.out.cell (k := 2) (i := 0) rfl rfl
      have z1 := H10.out.cell (k := 2) (i := 1) rfl rfl
      have z2 := H10.out.cell (k := 2) (i := 2) rfl rfl
      have H11 := ((H10.out.set (k := 2) rfl 0 (.slice A7 (na + nb) e7)).set (k := 2) rfl 1 (.slice A2 (Na + Nb) d2)).set (k := 2) rfl 2 (.int .i64 (La + Lb))
      have hF0 := H11.cell (k := 2) (i := 0) rfl rfl
      have hF1 := H11.cell (k := 2) (i := 1) rfl rfl
      have hF2 := H11.cell (k := 2) (i := 2) rfl rfl
      have Hfin := Lib.hid H11
      clear H11
      go_wp2_with fail
      refine bodyPost_ret (v := .agg #[.slice A7 (na + nb) e7, .slice A2 (Na + Nb) d2, .int .i64 (La + Lb)]) (by simp [results, Tryd.results35, go_sem, hF0, hF1, hF2]) rfl ?_
      refine ⟨A7, A2, e7, d2, by rw [HNe.out], ?_, Hfin.out.sl (k := 1) rfl, Hfin.out.below⟩
      have := Hfin.out.sl (k := 0) rfl
      rw [show ints (Sa ++ Sb) = ints Sa ++ ints Sb by simp [ints]]
      exact this
end Go.Proofs.YtmhhjchnjaefhaaDoor

