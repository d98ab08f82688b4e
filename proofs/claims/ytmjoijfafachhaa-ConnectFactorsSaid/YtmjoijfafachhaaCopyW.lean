/- The reference's Copy of a diagram. -/
import Derived.Test.YtmjoijfafachhaaPrmP
import Derived.Test.YtmjoijfafachhaaHeap
import Derived.Deep.RegionHeld3
namespace Go.Proofs.Ytmjoijfafachhaa
open Go Go.RowKit
section
variable {ops : Array Oper} {o : Oper} {a : Act} {w : World}
theorem ints_one (xs : List Int) : ∀ u ∈ ints xs, u.oneCell' = true := fun u hu => by
  obtain ⟨x, _, rfl⟩ := List.mem_map.1 hu; rfl
/-- Append of numbers at a step of a region that draws its order. -/
theorem step_append_ints {K : Act → World → Prop} {Q : Exit → Act → World → Prop} {Z : Prop} (hg : o.guard = none) (s x : Operand) (hop : o.op = .call { callee := .builtin .append, args := #[s, x], argTypes := #[22, 22] })
    (B : Nat) (A : Option Addr) (n c : Nat) (xs : List Int) (hs : a.eval s = .slice A n c) (hn : xs.length = n) (hown : Own w B 3 A c (ints xs)) (ax : Option Addr) (m cx : Nat) (ys : List Int) (hx : a.eval x = .slice ax m cx) (hm : ys.length = m) (hus : IntsAt w ax ys)
    (r : Nat) (hr : n + m = r) (h63 : r ≤ 1000000) (hB : B ≤ w.heap.size)
    (hK : ∀ A' c' w', Own w' B 3 A' c' (ints (xs ++ ys)) → Turned w w' A → (∀ x, A' = some x → (w.heap.size ≤ x.block ∨ ∃ y, A = some y ∧ x = y)) → K (a.put o.dst (.slice A' r c')) w') :
    if Region.wanted o (yielded ops a.tmps) = true then Oper.wp Try.prog o a w K Q else Z := by
  obtain ⟨i0, hi0, hz0, hz1, hz2⟩ := info_parts Try.info3
  subst hr
  have hc := hown.size
  rw [ints_length] at hc
  refine step_append_wide hg s x 22 22 hop B 3 i0 (.int .i64 0) 8 1 Try.underlying22 Try.underlying22 hi0 hz0 hz1 (by decide) hz2 rfl A n c (ints xs) hs (by rw [ints_length]; omega) (by omega) (by rw [Nat.mul_one]; exact hown) ax m cx (ints ys) hx (by rw [ints_length]; omega) hus (ints_one ys) (by omega) (by omega) hB fun A' c' w' _ h2 h3 h4 => hK A' c' w' (by rw [Nat.mul_one] at h2; unfold ints at h2 ⊢; rw [List.map_append]; exact h2) h3 h4
end
theorem HH.swap {w0 w : World} {l : Kn} {x y : SlO} (h : HH w0 w l [x, y]) : HH w0 w l [y, x] := by
  refine ⟨h.below, h.blk, fun z hz => h.own z ?_, h.nd1, ?_, fun z hz u hu => h.nd3 z hz u ?_⟩
  · simp only [List.mem_cons, List.not_mem_nil, or_false] at hz ⊢; exact hz.symm
  · have h2 := h.nd2
    simp only [List.pairwise_cons, List.mem_cons, List.not_mem_nil, or_false, forall_eq, false_imp_iff, implies_true, List.Pairwise.nil, and_true] at h2 ⊢
    exact fun p q hp hq e => h2 q p hq hp e.symm
  · simp only [List.mem_cons, List.not_mem_nil, or_false] at hu ⊢; exact hu.symm
set_option maxRecDepth 100000 in
set_option maxHeartbeats 1000000 in
theorem copy_own (S M : List Int) (L : Int) (aS aM : Option Addr) (cS cM : Nat) (w : World) (hSl : S.length ≤ 1000000) (hMl : M.length ≤ 1000000) (hS : IntsAt w aS S) (hM : IntsAt w aM M) :
    Calls Try.prog 64 #[.agg #[.slice aS S.length cS, .slice aM M.length cM, .int .i64 L]] w fun e w' => ∃ a b c d, e = .returned (.agg #[.slice a S.length c, .slice b M.length d, .int .i64 L]) ∧ Own w' w.heap.size 3 a c (ints S) ∧ Own w' w.heap.size 3 b d (ints M) ∧ (∀ p q, a = some p → b = some q → p.block ≠ q.block) ∧ Below w.heap.size w w' := by
  have HS := Lib.hid hS
  have HM := Lib.hid hM
  have H0 := Lib.hid (((HH.start w).alloc #[.slice aS S.length cS, .slice aM M.length cM, .int .i64 L] 24 rfl rfl).alloc #[.slice none 0 0, .slice none 0 0, .int .i64 0] 24 (b := w.heap.size + 1) (by simp) rfl)
  have HKS : Hid (∀ (W' : World) (l : Kn) (s : List SlO), HH w W' ((w.heap.size, rowO 24 [.slice aS S.length cS, .slice aM M.length cM, .int .i64 L]) :: l) s → W'.cell? ⟨w.heap.size, 0, none⟩ = some (.slice aS S.length cS) ∧ W'.cell? ⟨w.heap.size, 1, none⟩ = some (.slice aM M.length cM) ∧ W'.cell? ⟨w.heap.size, 2, none⟩ = some (.int .i64 L)) := Lib.hid fun W' l s h => ⟨h.cell (k := 0) (i := 0) rfl rfl, h.cell (k := 0) (i := 1) rfl rfl, h.cell (k := 0) (i := 2) rfl rfl⟩
  clear hS hM
  go_enter Try.func64, Try.ntmps64
  go_upto_region 1 with fail
  have hWz : ((w.alloc (.cells #[.slice aS S.length cS, .slice aM M.length cM, .int .i64 L] 24)).alloc (.cells #[.slice none 0 0, .slice none 0 0, .int .i64 0] 24)).heap.size = w.heap.size + 2 := by simp
  generalize ((w.alloc (.cells #[.slice aS S.length cS, .slice aM M.length cM, .int .i64 L] 24)).alloc (.cells #[.slice none 0 0, .slice none 0 0, .int .i64 0] 24)) = W at *
  have Hd := Lib.hid H0.out.drew
  have Hw1 := Lib.hid (Row.new W #[] 3)
  have G1 : Hid (HH w (W.alloc (.cells #[] 3)).drew [(w.heap.size, rowO 24 [.slice aS S.length cS, .slice aM M.length cM, .int .i64 L]), (w.heap.size + 1, rowO 24 [.slice none 0 0, .slice none 0 0, .int .i64 0])] [⟨some ⟨W.heap.size, 0, none⟩, 0, 3, ints []⟩]) := Lib.hid (H0.out.addSl (s := []) ((Below.refl _ _).alloc (Nat.le_refl _) (.cells #[] 3)) ((Row.new W #[] 3).own (Nat.le_refl _))).drew
  have G2 : Hid (HH w ((W.alloc (.cells #[] 3)).alloc (.cells #[] 3)).drew [(w.heap.size, rowO 24 [.slice aS S.length cS, .slice aM M.length cM, .int .i64 L]), (w.heap.size + 1, rowO 24 [.slice none 0 0, .slice none 0 0, .int .i64 0])] [⟨some ⟨W.heap.size, 0, none⟩, 0, 3, ints []⟩, ⟨some ⟨W.heap.size + 1, 0, none⟩, 0, 3, ints []⟩]) := Lib.hid (by
    have h := (H0.out.addSl (s := []) ((Below.refl _ _).alloc (Nat.le_refl _) (.cells #[] 3)) ((Row.new W #[] 3).own (Nat.le_refl _))).addSl ((Below.refl _ _).alloc (Nat.le_refl _) (.cells #[] 3)) ((Row.new (W.alloc (.cells #[] 3)) #[] 3).own (Nat.le_refl _))
    have h := h.drew
    simpa [ints] using h)
  have G3 := Lib.hid G2.out.swap
  have Q0 := Lib.hid (HKS.out _ _ _ Hd.out)
  have Q1 := Lib.hid (HKS.out _ _ _ G1.out)
  have Q2 := Lib.hid (HKS.out _ _ _ G2.out)
  have hq0 := Q0.out
  clear H0 Hw1
  rw [hWz] at G1 G2 G3
  go_region_held3 (fun W' => W'.cell? ⟨w.heap.size, 0, none⟩ = some (.slice aS S.length cS) ∧ W'.cell? ⟨w.heap.size, 1, none⟩ = some (.slice aM M.length cM) ∧ W'.cell? ⟨w.heap.size, 2, none⟩ = some (.int .i64 L))
    (first
      | with_reducible exact Q0.out
      | with_reducible exact Q1.out
      | with_reducible exact Q2.out
      | with_reducible exact Q3.out
      | with_reducible exact Q4.out
      | with_reducible exact Q5.out
      | with_reducible exact Q9.out)
    (first
      | ((with_reducible refine step_append_ints rfl (.tmp 3) (.tmp 5) rfl w.heap.size (some ⟨w.heap.size + 2, 0, none⟩) 0 0 [] rfl rfl (G1.out.sl (k := 0) rfl) aS S.length cS S rfl rfl (HS.out.later G1.out.below) S.length (Nat.zero_add _) hSl G1.out.below.size ?_); intro a1 c1 w5 hO hT hA; have F := Lib.hid ((G1.out.grow (k := 0) rfl hO hT hA).addSl ((Below.refl _ _).alloc (Nat.le_refl _) (.cells #[] 3)) ((Row.new w5 #[] 3).own (Nat.le_refl _))); have Q3 := Lib.hid (HKS.out _ _ _ (G1.out.grow (k := 0) rfl hO hT hA)); have Q4 := Lib.hid (HKS.out _ _ _ F.out); clear hO hT hA)
      | ((with_reducible refine step_append_ints rfl (.tmp 3) (.tmp 5) rfl w.heap.size (some ⟨w.heap.size + 2, 0, none⟩) 0 0 [] rfl rfl (G2.out.sl (k := 0) rfl) aS S.length cS S rfl rfl (HS.out.later G2.out.below) S.length (Nat.zero_add _) hSl G2.out.below.size ?_); intro a1 c1 w5 hO hT hA; have F := Lib.hid (G2.out.grow (k := 0) rfl hO hT hA); have Q3 := Lib.hid (HKS.out _ _ _ F.out); clear hO hT hA)
      | ((with_reducible refine step_append_ints rfl (.tmp 3) (.tmp 5) rfl w.heap.size (some ⟨w.heap.size + 2 + 1, 0, none⟩) 0 0 [] rfl rfl (G3.out.sl (k := 0) rfl) aS S.length cS S rfl rfl (HS.out.later G3.out.below) S.length (Nat.zero_add _) hSl G3.out.below.size ?_); intro a1 c1 w5 hO hT hA; have F := Lib.hid (G3.out.grow (k := 0) rfl hO hT hA); have Q3 := Lib.hid (HKS.out _ _ _ F.out); clear hO hT hA)
      | ((with_reducible refine step_append_ints rfl (.tmp 7) (.tmp 9) rfl w.heap.size (some ⟨w5.heap.size, 0, none⟩) 0 0 [] rfl rfl (F.out.sl (k := 1) rfl) aM M.length cM M rfl rfl (HM.out.later F.out.below) M.length (Nat.zero_add _) hMl F.out.below.size ?_); intro a2 c2 w6 hO hT hA; have H2 := Lib.hid (F.out.grow (k := 1) rfl hO hT hA); have Q5 := Lib.hid (HKS.out _ _ _ H2.out); clear hO hT hA; have hd0 := H2.out.cell (k := 1) (i := 0) rfl rfl; have hf0 := H2.out.frozen (k := 1) rfl 0; have hd1 := H2.out.cell (k := 1) (i := 1) rfl rfl; have hf1 := H2.out.frozen (k := 1) rfl 1; have hd2 := H2.out.cell (k := 1) (i := 2) rfl rfl; have hf2 := H2.out.frozen (k := 1) rfl 2; have H9 := Lib.hid (((H2.out.set (k := 1) rfl 0 (.slice a1 S.length c1)).set (k := 1) rfl 1 (.slice a2 M.length c2)).set (k := 1) rfl 2 (.int .i64 L)); have Q9 := Lib.hid (HKS.out _ _ _ H9.out))
      | ((with_reducible refine step_append_ints rfl (.tmp 7) (.tmp 9) rfl w.heap.size (some ⟨w.heap.size + 2, 0, none⟩) 0 0 [] rfl rfl (F.out.sl (k := 1) rfl) aM M.length cM M rfl rfl (HM.out.later F.out.below) M.length (Nat.zero_add _) hMl F.out.below.size ?_); intro a2 c2 w6 hO hT hA; have H2 := Lib.hid (F.out.grow (k := 1) rfl hO hT hA); have Q5 := Lib.hid (HKS.out _ _ _ H2.out); clear hO hT hA; have hd0 := H2.out.cell (k := 1) (i := 0) rfl rfl; have hf0 := H2.out.frozen (k := 1) rfl 0; have hd1 := H2.out.cell (k := 1) (i := 1) rfl rfl; have hf1 := H2.out.frozen (k := 1) rfl 1; have hd2 := H2.out.cell (k := 1) (i := 2) rfl rfl; have hf2 := H2.out.frozen (k := 1) rfl 2; have H9 := Lib.hid (((H2.out.set (k := 1) rfl 0 (.slice a1 S.length c1)).set (k := 1) rfl 1 (.slice a2 M.length c2)).set (k := 1) rfl 2 (.int .i64 L)); have Q9 := Lib.hid (HKS.out _ _ _ H9.out))
      | ((with_reducible refine step_append_ints rfl (.tmp 7) (.tmp 9) rfl w.heap.size (some ⟨w.heap.size + 2 + 1, 0, none⟩) 0 0 [] rfl rfl (F.out.sl (k := 1) rfl) aM M.length cM M rfl rfl (HM.out.later F.out.below) M.length (Nat.zero_add _) hMl F.out.below.size ?_); intro a2 c2 w6 hO hT hA; have H2 := Lib.hid (F.out.grow (k := 1) rfl hO hT hA); have Q5 := Lib.hid (HKS.out _ _ _ H2.out); clear hO hT hA; have hd0 := H2.out.cell (k := 1) (i := 0) rfl rfl; have hf0 := H2.out.frozen (k := 1) rfl 0; have hd1 := H2.out.cell (k := 1) (i := 1) rfl rfl; have hf1 := H2.out.frozen (k := 1) rfl 1; have hd2 := H2.out.cell (k := 1) (i := 2) rfl rfl; have hf2 := H2.out.frozen (k := 1) rfl 2; have H9 := Lib.hid (((H2.out.set (k := 1) rfl 0 (.slice a1 S.length c1)).set (k := 1) rfl 1 (.slice a2 M.length c2)).set (k := 1) rfl 2 (.int .i64 L)); have Q9 := Lib.hid (HKS.out _ _ _ H9.out)))
  all_goals
    clear hd0 hd1 hd2 hf0 hf1 hf2
    have hF0 := H9.out.cell (k := 1) (i := 0) rfl rfl
    have hF1 := H9.out.cell (k := 1) (i := 1) rfl rfl
    have hF2 := H9.out.cell (k := 1) (i := 2) rfl rfl
    go_wp2_with fail
    refine bodyPost_ret (v := .agg #[.slice a1 S.length c1, .slice a2 M.length c2, .int .i64 L]) (by simp [results, Try.results64, go_sem, hF0, hF1, hF2]) rfl ?_
    have hp := H9.out.nd2
    simp only [List.nil_append, List.cons_append, setO, List.pairwise_cons, List.mem_cons, List.not_mem_nil, or_false, forall_eq, false_imp_iff, implies_true, List.Pairwise.nil, and_true] at hp
    first
      | exact ⟨_, _, _, _, rfl, H9.out.sl (k := 0) rfl, H9.out.sl (k := 1) rfl, hp, H9.out.below⟩
      | exact ⟨_, _, _, _, rfl, H9.out.sl (k := 1) rfl, H9.out.sl (k := 0) rfl, fun p q hp' hq' e => hp q p hq' hp' e.symm, H9.out.below⟩
end Go.Proofs.Ytmjoijfafachhaa
