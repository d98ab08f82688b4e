/- The walks of slices.Clone and diagram.Clone. -/
import Derived.Test.YtmjoijfafachhaaHeap
import Derived.Test.YtmjoijfafachhaaConM
import Derived.Test.YtmjoijfafachhaaPartW
import Derived.Test.YtmjoijfafachhaaBesW
import Derived.Deep.AppendSrc
import Derived.Deep.DeepCutAuto
import Derived.WalkSpells
import Derived.Deep.RegionHeld
import Derived.Deep.RegionHeld3
namespace Go.Proofs.Ytmjoijfafachhaa
open Go Go.RowKit
theorem nilTest (a : Option Addr) (n c : Nat) (W : World) : (binOp .eql 22 (.slice a n c) (.slice none 0 0)).run Try.prog W = .ok (.bool a.isNone) W := Lib.run_eql_slice_nil W 22 3 a n c 0 0 Try.underlying22
/-- Whole slices appended to an empty one that lies at z. -/
theorem run_append_all (W : World) (z : Nat) (hz : z ≤ W.heap.size) (xs : List Int) (ad : Addr) (c : Nat) (ty : TypeId) (hl : xs.length ≤ 1000000) (hc : ∀ i, i < xs.length → W.cell? (ad.add i) = some (.int .i64 (nth xs i))) :
    ∃ a' c' W', (Builtin.append_ #[22, 22] ty #[.slice (some ⟨z, 0, none⟩) 0 0, .slice (some ad) xs.length c]).run Try.prog W = .ok (.slice a' xs.length c') W' ∧ IntsAt W' a' xs ∧ (∀ x, a' = some x → z ≤ x.block) ∧ Below W.heap.size W W' := by
  obtain ⟨i0, hi0, hz0, hz1, hz2⟩ := info_parts Try.info3
  have hs : Src Try.prog i0.size 22 (.slice (some ad) xs.length c) xs.length (ints xs) W := by
    refine Src.ofSlice W Try.underlying22 ad xs.length c (ints xs) (by rw [ints_length, hz1, Nat.mul_one]) (fun j v hj => ?_) (fun v hv => ?_)
    · have hjl : j < xs.length := by have := (List.getElem?_eq_some_iff.1 hj).1; rwa [ints_length] at this
      rw [ints_get xs j hjl] at hj
      cases hj
      exact hc j hjl
    · simp only [ints, List.mem_map] at hv
      obtain ⟨_, _, rfl⟩ := hv
      rfl
  rcases Nat.eq_zero_or_pos xs.length with h0 | h0
  · obtain rfl : xs = [] := List.eq_nil_of_length_eq_zero h0
    have hr := run_append_room_src (P := Try.prog) W 22 22 ty 3 i0 Try.underlying22 hi0 z 0 0 0 (.slice (some ad) 0 c) 0 [] hs (by omega) (fun j hj => absurd hj (Nat.not_lt_zero _)) (fun j hj => absurd hj (Nat.not_lt_zero _))
    exact ⟨_, _, _, hr, IntsAt.nil _ _, fun x hx => by cases hx; exact Nat.le_refl _, Below.refl _ _⟩
  · have hr := run_append_grow_src (P := Try.prog) W 22 22 ty 3 i0 (.int .i64 0) Try.underlying22 hi0 hz0 (some ⟨z, 0, none⟩) 0 0 [] (run_firstCells_some W.drew i0.size 0 ⟨z, 0, none⟩ 0 0 [] (by simp) (by simp)) (.slice (some ad) xs.length c) xs.length (ints xs) hs (by omega) (by omega) (growslice_fits (by omega) (by rw [hz2]; omega))
    rw [Nat.zero_add] at hr
    refine ⟨_, _, _, hr, ?_, fun x hx => by cases hx; exact hz, ?_⟩
    · intro j v hj
      refine ⟨W.heap.size, 0, rfl, ?_⟩
      have hjl : j < xs.length := by have := (List.getElem?_eq_some_iff.1 hj).1; rwa [ints_length] at this
      have hn := heap_alloc_new W.drew (.cells (([] ++ ints xs).toArray ++ Builtin.zeroCells (Value.int .i64 0).cells (grownCap W xs.length 0 3 - xs.length)) 3)
      rw [cell_of_row _ W.heap.size _ _ 3 (0, 0) hn]
      rw [Array.getElem?_append]
      have : (0 + j) < (([] : List Value) ++ ints xs).toArray.size := by simp [ints_length]; omega
      rw [if_pos this]
      simpa using hj
    · exact (Below.refl _ _).drew.alloc (Nat.le_refl _) _
section
variable {w : World} {ops : Array Oper} {rest : List Oper} {o : Oper} {a : Act} {Q : Exit → Act → World → Prop}
theorem wpList_append_all (hg : o.guard = none) (s x : Operand) (hop : o.op = .call { callee := .builtin .append, args := #[s, x], argTypes := #[22, 22] })
    (u v r : Value) (w' : World) (hs : a.eval s = u) (hx : a.eval x = v) (hrun : (Builtin.append_ #[22, 22] o.type #[u, v]).run Try.prog w = .ok r w')
    (hK : wpList Try.prog ops Q rest (a.put o.dst r) w') : wpList Try.prog ops Q (o :: rest) a w := by
  refine wpList_plain hg fun K hK' => ?_
  unfold Oper.wp
  simp [execOp, hop, resolve, invoke, builtin, hs, hx, hrun, Result.andThen]
  exact hK' _ _ hK
end
set_option maxRecDepth 100000 in
set_option maxHeartbeats 4000000 in
theorem sclone_some (xs : List Int) (ad : Addr) (c : Nat) (w : World) (hl : xs.length ≤ 1000000) (hx : IntsAt w (some ad) xs) :
    Calls Try.prog 73 #[.slice (some ad) xs.length c] w fun e w' => ∃ a' c', e = .returned (.slice a' xs.length c') ∧ IntsAt w' a' xs ∧ (∀ x, a' = some x → w.heap.size ≤ x.block) ∧ Below w.heap.size w w' := by
  have hnil := nilTest (some ad) xs.length c
  simp only [Option.isNone_some] at hnil
  have hb : Below w.heap.size w (w.alloc (.cells #[] 3)) := (Below.refl _ _).alloc (Nat.le_refl _) _
  obtain ⟨a', c', W', hrun, hi, hlo, hbw⟩ := run_append_all (w.alloc (.cells #[] 3)) w.heap.size (by simp) xs ad c 22 hl (fun i hi => by
    have h1 := hx.later hb
    obtain ⟨b', off', he, _, hc⟩ := h1.open (by omega)
    simp only [Option.some.injEq] at he
    rw [he, Addr.add_lit]
    exact hc i hi)
  have Hi := Lib.hid hi
  have Hlo := Lib.hid hlo
  have Hb := Lib.hid (below_step hb hbw)
  have Hrun := Lib.hid hrun
  clear hx hi hbw hb hrun hlo
  go_enter Try.func73, Try.ntmps73
  go_wp2_with (refine wpList_append_all rfl (.tmp 5) (.tmp 6) rfl _ _ _ _ rfl rfl Hrun.out ?_)
  go_ret
  exact ⟨a', c', rfl, Hi.out, Hlo.out, Hb.out⟩
set_option maxRecDepth 100000 in
theorem sclone_none (xs : List Int) (c : Nat) (w : World) (h0 : xs = []) :
    Calls Try.prog 73 #[.slice none 0 c] w fun e w' => ∃ a' c', e = .returned (.slice a' xs.length c') ∧ IntsAt w' a' xs ∧ (∀ x, a' = some x → w.heap.size ≤ x.block) ∧ Below w.heap.size w w' := by
  have hnil := nilTest none 0 c
  simp only [Option.isNone_none] at hnil
  go_enter Try.func73, Try.ntmps73
  go_wp2_with fail
  go_ret
  subst h0
  exact ⟨_, _, rfl, IntsAt.nil _ _, fun x hx => by simp at hx, Below.refl _ _⟩
theorem sclone_any (xs : List Int) (a : Option Addr) (c : Nat) (w : World) (hl : xs.length ≤ 1000000) (hx : IntsAt w a xs) :
    Calls Try.prog 73 #[.slice a xs.length c] w fun e w' => ∃ a' c', e = .returned (.slice a' xs.length c') ∧ IntsAt w' a' xs ∧ (∀ x, a' = some x → w.heap.size ≤ x.block) ∧ Below w.heap.size w w' := by
  rcases Nat.eq_zero_or_pos xs.length with h0 | h0
  · have h1 : xs = [] := List.eq_nil_of_length_eq_zero h0
    cases a with
    | none => rw [h0]; have := sclone_none xs c w h1; rw [h0] at this; exact this
    | some ad => exact sclone_some xs ad c w hl hx
  · obtain ⟨b, off, rfl, _⟩ := hx.open h0
    exact sclone_some xs ⟨b, off, none⟩ c w hl hx
theorem IntsAt.setOther {w : World} {a : Option Addr} {xs : List Int} (h : IntsAt w a xs) (p : Addr) (u : Value) (hp : ∀ x, a = some x → x.block ≠ p.block) : IntsAt (w.setCell p u) a xs := by
  intro i v hi
  obtain ⟨b, off, he, hc⟩ := h i v hi
  refine ⟨b, off, he, ?_⟩
  have hb := hp _ he
  exact (World.cell?_setCell_far w p ⟨b, off + i, none⟩ u fun e => hb e.symm).trans hc
theorem run_append_own (W : World) (z B : Nat) (hB : B ≤ W.heap.size) (xs : List Int) (ad : Addr) (c : Nat) (ty : TypeId) (hl : xs.length ≤ 1000000) (h0 : 0 < xs.length) (hc : ∀ i, i < xs.length → W.cell? (ad.add i) = some (.int .i64 (nth xs i))) :
    ∃ a' c' W', (Builtin.append_ #[22, 22] ty #[.slice (some ⟨z, 0, none⟩) 0 0, .slice (some ad) xs.length c]).run Try.prog W = .ok (.slice a' xs.length c') W' ∧ Own W' B 3 a' c' (ints xs) ∧ Below W.heap.size W W' := by
  obtain ⟨i0, hi0, hz0, hz1, hz2⟩ := info_parts Try.info3
  have hs : Src Try.prog i0.size 22 (.slice (some ad) xs.length c) xs.length (ints xs) W := by
    refine Src.ofSlice W Try.underlying22 ad xs.length c (ints xs) (by rw [ints_length, hz1, Nat.mul_one]) (fun j v hj => ?_) (fun v hv => ?_)
    · have hjl : j < xs.length := by have := (List.getElem?_eq_some_iff.1 hj).1; rwa [ints_length] at this
      rw [ints_get xs j hjl] at hj
      cases hj
      exact hc j hjl
    · simp only [ints, List.mem_map] at hv
      obtain ⟨_, _, rfl⟩ := hv
      rfl
  have hr := run_append_grow_src (P := Try.prog) W 22 22 ty 3 i0 (.int .i64 0) Try.underlying22 hi0 hz0 (some ⟨z, 0, none⟩) 0 0 [] (run_firstCells_some W.drew i0.size 0 ⟨z, 0, none⟩ 0 0 [] (by simp) (by simp)) (.slice (some ad) xs.length c) xs.length (ints xs) hs (by omega) (by omega) (growslice_fits (by omega) (by rw [hz2]; omega))
  rw [Nat.zero_add] at hr
  have hge := grownCap_ge W xs.length 0 3
  refine ⟨_, _, _, hr, ?_, (Below.refl _ _).drew.alloc (Nat.le_refl _) _⟩
  refine .inr ⟨_, 0, _, rfl, by simpa using hB, heap_alloc_new W.drew _, ?_, ?_, ?_⟩
  · rw [ints_length]; simpa using hge
  · simp [size_zeroCells, ints_length, Value.cells]; omega
  · intro j v hj
    have hlt : j < (ints xs).length := (List.getElem?_eq_some_iff.1 hj).1
    rw [Nat.zero_add, Array.getElem?_append_left (by simpa using hlt)]
    simpa using hj
set_option maxRecDepth 100000 in
set_option maxHeartbeats 4000000 in
theorem sclone_own (xs : List Int) (a : Option Addr) (c : Nat) (w : World) (hl : xs.length ≤ 1000000) (h0 : 0 < xs.length) (hx : IntsAt w a xs) :
    Calls Try.prog 73 #[.slice a xs.length c] w fun e w' => ∃ a' c', e = .returned (.slice a' xs.length c') ∧ Own w' w.heap.size 3 a' c' (ints xs) ∧ Below w.heap.size w w' := by
  obtain ⟨b, off, rfl, _⟩ := hx.open h0
  have hnil := nilTest (some ⟨b, off, none⟩) xs.length c
  simp only [Option.isNone_some] at hnil
  have hb : Below w.heap.size w (w.alloc (.cells #[] 3)) := (Below.refl _ _).alloc (Nat.le_refl _) _
  obtain ⟨a', c', W', hrun, hi, hbw⟩ := run_append_own (w.alloc (.cells #[] 3)) w.heap.size w.heap.size (by simp) xs ⟨b, off, none⟩ c 22 hl h0 (fun i hi => by
    have h1 := hx.later hb
    obtain ⟨b', off', he, _, hc⟩ := h1.open (by omega)
    simp only [Option.some.injEq] at he
    rw [he, Addr.add_lit]
    exact hc i hi)
  have Hi := Lib.hid hi
  have Hb := Lib.hid (below_step hb hbw)
  have Hrun := Lib.hid hrun
  clear hx hi hbw hb hrun
  go_enter Try.func73, Try.ntmps73
  go_wp2_with (refine wpList_append_all rfl (.tmp 5) (.tmp 6) rfl _ _ _ _ rfl rfl Hrun.out ?_)
  go_ret
  exact ⟨a', c', rfl, Hi.out, Hb.out⟩
set_option maxRecDepth 100000 in
set_option maxHeartbeats 4000000 in
theorem dclone_own (S M : List Int) (L : Int) (aS aM : Option Addr) (cS cM : Nat) (w : World) (hS0 : 0 < S.length) (hM0 : 0 < M.length) (hSl : S.length ≤ 1000000) (hMl : M.length ≤ 1000000) (hS : IntsAt w aS S) (hM : IntsAt w aM M) :
    Calls Try.prog 59 #[.agg #[.slice aS S.length cS, .slice aM M.length cM, .int .i64 L]] w fun e w' => ∃ a b c d, e = .returned (.agg #[.slice a S.length c, .slice b M.length d, .int .i64 L]) ∧ Own w' w.heap.size 3 a c (ints S) ∧ Own w' w.heap.size 3 b d (ints M) ∧ (∀ p q, a = some p → b = some q → p.block ≠ q.block) ∧ Below w.heap.size w w' := by
  have HS := Lib.hid hS
  have HM := Lib.hid hM
  have HcS : Hid (∀ W', Below w.heap.size w W' → Calls Try.prog 73 #[.slice aS S.length cS] W' fun e w' => ∃ a' c', e = .returned (.slice a' S.length c') ∧ Own w' W'.heap.size 3 a' c' (ints S) ∧ Below W'.heap.size W' w') := Lib.hid fun W' h => sclone_own S aS cS W' hSl hS0 (hS.later h)
  have HcM : Hid (∀ W', Below w.heap.size w W' → Calls Try.prog 73 #[.slice aM M.length cM] W' fun e w' => ∃ a' c', e = .returned (.slice a' M.length c') ∧ Own w' W'.heap.size 3 a' c' (ints M) ∧ Below W'.heap.size W' w') := Lib.hid fun W' h => sclone_own M aM cM W' hMl hM0 (hM.later h)
  have H0 := Lib.hid (((HH.start w).alloc #[.slice aS S.length cS, .slice aM M.length cM, .int .i64 L] 24 rfl rfl).alloc #[.slice none 0 0, .slice none 0 0, .int .i64 0] 24 (b := w.heap.size + 1) (by simp) rfl)
  have HKS : Hid (∀ (W' : World) (l : Kn) (s : List SlO), HH w W' ((w.heap.size, rowO 24 [.slice aS S.length cS, .slice aM M.length cM, .int .i64 L]) :: l) s → W'.cell? ⟨w.heap.size, 0, none⟩ = some (.slice aS S.length cS) ∧ W'.cell? ⟨w.heap.size, 1, none⟩ = some (.slice aM M.length cM) ∧ W'.cell? ⟨w.heap.size, 2, none⟩ = some (.int .i64 L)) := Lib.hid fun W' l s h => ⟨h.cell (k := 0) (i := 0) rfl rfl, h.cell (k := 0) (i := 1) rfl rfl, h.cell (k := 0) (i := 2) rfl rfl⟩
  clear hS hM hS0 hM0 hSl hMl
  go_enter Try.func59, Try.ntmps59
  go_upto_region 1 with fail
  have Hd := Lib.hid H0.out.drew
  clear H0
  generalize ((w.alloc (.cells #[.slice aS S.length cS, .slice aM M.length cM, .int .i64 L] 24)).alloc (.cells #[.slice none 0 0, .slice none 0 0, .int .i64 0] 24)) = W at *
  have Q0 := Lib.hid (HKS.out _ _ _ Hd.out)
  have hq0 := Q0.out
  go_region_held3 (fun W' => W'.cell? ⟨w.heap.size, 0, none⟩ = some (.slice aS S.length cS) ∧ W'.cell? ⟨w.heap.size, 1, none⟩ = some (.slice aM M.length cM) ∧ W'.cell? ⟨w.heap.size, 2, none⟩ = some (.int .i64 L))
    (first
      | with_reducible exact Q0.out
      | with_reducible exact Q1.out
      | with_reducible exact Q2.out
      | with_reducible exact Q9.out)
    (first
      | ((with_reducible refine (HcS.out _ Hd.out.below).mono ?_); rintro e w1 ⟨a1, c1, rfl, ho1, hb1⟩; have H1 := Lib.hid (Hd.out.addSl hb1 ho1); have Q1 := Lib.hid (HKS.out _ _ _ H1.out); clear ho1 hb1)
      | ((with_reducible refine (HcM.out _ Hd.out.below).mono ?_); rintro e w1 ⟨a2, c2, rfl, ho1, hb1⟩; have H1 := Lib.hid (Hd.out.addSl hb1 ho1); have Q1 := Lib.hid (HKS.out _ _ _ H1.out); clear ho1 hb1)
      | ((with_reducible refine (HcM.out _ H1.out.below).mono ?_); rintro e w2 ⟨a2, c2, rfl, ho2, hb2⟩; have H2 := Lib.hid (H1.out.addSl hb2 ho2); have Q2 := Lib.hid (HKS.out _ _ _ H2.out); clear ho2 hb2; have hd0 := H2.out.cell (k := 1) (i := 0) rfl rfl; have hf0 := H2.out.frozen (k := 1) rfl 0; have hd1 := H2.out.cell (k := 1) (i := 1) rfl rfl; have hf1 := H2.out.frozen (k := 1) rfl 1; have hd2 := H2.out.cell (k := 1) (i := 2) rfl rfl; have hf2 := H2.out.frozen (k := 1) rfl 2; have H9 := Lib.hid (((H2.out.set (k := 1) rfl 0 (.slice a1 S.length c1)).set (k := 1) rfl 1 (.slice a2 M.length c2)).set (k := 1) rfl 2 (.int .i64 L)); have Q9 := Lib.hid (HKS.out _ _ _ H9.out))
      | ((with_reducible refine (HcS.out _ H1.out.below).mono ?_); rintro e w2 ⟨a1, c1, rfl, ho2, hb2⟩; have H2 := Lib.hid (H1.out.addSl hb2 ho2); have Q2 := Lib.hid (HKS.out _ _ _ H2.out); clear ho2 hb2; have hd0 := H2.out.cell (k := 1) (i := 0) rfl rfl; have hf0 := H2.out.frozen (k := 1) rfl 0; have hd1 := H2.out.cell (k := 1) (i := 1) rfl rfl; have hf1 := H2.out.frozen (k := 1) rfl 1; have hd2 := H2.out.cell (k := 1) (i := 2) rfl rfl; have hf2 := H2.out.frozen (k := 1) rfl 2; have H9 := Lib.hid (((H2.out.set (k := 1) rfl 0 (.slice a1 S.length c1)).set (k := 1) rfl 1 (.slice a2 M.length c2)).set (k := 1) rfl 2 (.int .i64 L)); have Q9 := Lib.hid (HKS.out _ _ _ H9.out)))
  all_goals
    clear hd0 hd1 hd2 hf0 hf1 hf2
    have hF0 := H9.out.cell (k := 1) (i := 0) rfl rfl
    have hF1 := H9.out.cell (k := 1) (i := 1) rfl rfl
    have hF2 := H9.out.cell (k := 1) (i := 2) rfl rfl
    go_wp2_with fail
    refine bodyPost_ret (v := .agg #[.slice a1 S.length c1, .slice a2 M.length c2, .int .i64 L]) (by simp [results, Try.results59, go_sem, hF0, hF1, hF2]) rfl ?_
    have hp := H9.out.nd2
    simp only [List.nil_append, List.cons_append, List.pairwise_cons, List.mem_cons, List.not_mem_nil, or_false, forall_eq, false_imp_iff, implies_true, List.Pairwise.nil, and_true] at hp
  · exact ⟨_, _, _, _, rfl, H9.out.sl (k := 0) rfl, H9.out.sl (k := 1) rfl, hp, H9.out.below⟩
end Go.Proofs.Ytmjoijfafachhaa
