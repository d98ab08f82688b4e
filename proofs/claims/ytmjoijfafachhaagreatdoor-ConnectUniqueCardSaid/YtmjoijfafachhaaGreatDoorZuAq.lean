/- The walks of slices.Clone and diagram.Clone. connect.Factor at a cut: the two parts. -/
import Derived.Deep.AppendSrc
import Derived.Deep.DeepCutAuto
import Derived.WalkSpells
import Derived.Deep.RegionHeld
import Derived.Deep.RegionHeld3
import Derived.WalkKit
import Derived.WalkLawsBesides
import Derived.Deep.LoopGhost
import Derived.Deep.QuietTactic
import Derived.Deep.RegionWith
import Derived.Deep.DeepMust
import Derived.Deep.DeepFit
import Derived.BigQuiet
import Derived.Lib.Hide
import Derived.Outline
import Derived.Test.YtmjoijfafachhaaGreatDoorProg
import Derived.Deep.Matrix
import Derived.Deep.RegionLaw
import Derived.Lib.AppendZeros
import Derived.Shelf.Small.Bits
import Derived.Shelf.Small.Wraps
import Derived.Shelf.Strconv.Itoa0
import Derived.Shelf.Sort.Plain
import Derived.Shelf.Slices.Turned
import Derived.Shelf.Slices.Equal
import Derived.Ground.Names2Prog
import Derived.Shelf.Slices.Clone
import Derived.Shelf.Slices.CompactI
import Derived.Shelf.Slices.SearchI
import Derived.Shelf.Slices.Cells
import Derived.Shelf.Slices.In.SortNone
import Derived.Shelf.Slices.Empties2
import Derived.Ground.SlgnProg
import Derived.Shelf.SlicesE.Clone
import Derived.Shelf.Strings.Builder1
import Derived.Shelf.Strings.BuilderF
import Derived.Shelf.Strings.BuilderK
import Derived.Shelf.Strconv.Itoa1
import Derived.Shelf.LaysM
import Derived.Shelf.Strconv.Itoa2
import Derived.Shelf.Strconv.Itoa3
import Derived.Test.YtmjoijfafachhaaGreatDoorZuAa
import Derived.Test.YtmjoijfafachhaaGreatDoorZuAb
import Derived.Test.YtmjoijfafachhaaGreatDoorZuAc
import Derived.Test.YtmjoijfafachhaaGreatDoorZuAd
import Derived.Test.YtmjoijfafachhaaGreatDoorZuAe
import Derived.Test.YtmjoijfafachhaaGreatDoorZuAf
import Derived.Test.YtmjoijfafachhaaGreatDoorZuAg
import Derived.Test.YtmjoijfafachhaaGreatDoorZuAh
import Derived.Test.YtmjoijfafachhaaGreatDoorZuAj
import Derived.Test.YtmjoijfafachhaaGreatDoorZuAk
import Derived.Test.YtmjoijfafachhaaGreatDoorZuAo
import Derived.Test.YtmjoijfafachhaaGreatDoorZuAp
import Derived.Test.YtmjoijfafachhaaGreatDoorZuAl
import Derived.Test.YtmjoijfafachhaaGreatDoorZuAm
import Derived.Test.YtmjoijfafachhaaGreatDoorZuAn
namespace Go.Proofs.YtmjoijfafachhaaGreatDoor
open Go Go.RowKit
theorem nilTest (a : Option Addr) (n c : Nat) (W : World) : (binOp .eql 22 (.slice a n c) (.slice none 0 0)).run Tryz.prog W = .ok (.bool a.isNone) W := Lib.run_eql_slice_nil W 22 3 a n c 0 0 Tryz.underlying22
section
variable {w : World} {ops : Array Oper} {rest : List Oper} {o : Oper} {a : Act} {Q : Exit → Act → World → Prop}
theorem wpList_append_all (hg : o.guard = none) (s x : Operand) (hop : o.op = .call { callee := .builtin .append, args := #[s, x], argTypes := #[22, 22] })
    (u v r : Value) (w' : World) (hs : a.eval s = u) (hx : a.eval x = v) (hrun : (Builtin.append_ #[22, 22] o.type #[u, v]).run Tryz.prog w = .ok r w')
    (hK : wpList Tryz.prog ops Q rest (a.put o.dst r) w') : wpList Tryz.prog ops Q (o :: rest) a w := by
  refine wpList_plain hg fun K hK' => ?_
  unfold Oper.wp
  simp [execOp, hop, resolve, invoke, builtin, hs, hx, hrun, Result.andThen]
  exact hK' _ _ hK
end
theorem IntsAt.setOther {w : World} {a : Option Addr} {xs : List Int} (h : IntsAt w a xs) (p : Addr) (u : Value) (hp : ∀ x, a = some x → x.block ≠ p.block) : IntsAt (w.setCell p u) a xs := by
  intro i v hi
  obtain ⟨b, off, he, hc⟩ := h i v hi
  refine ⟨b, off, he, ?_⟩
  have hb := hp _ he
  exact (World.cell?_setCell_far w p ⟨b, off + i, none⟩ u fun e => hb e.symm).trans hc
theorem run_append_own (W : World) (z B : Nat) (hB : B ≤ W.heap.size) (xs : List Int) (ad : Addr) (c : Nat) (ty : TypeId) (hl : xs.length ≤ 1000000) (h0 : 0 < xs.length) (hc : ∀ i, i < xs.length → W.cell? (ad.add i) = some (.int .i64 (nth xs i))) :
    ∃ a' c' W', (Builtin.append_ #[22, 22] ty #[.slice (some ⟨z, 0, none⟩) 0 0, .slice (some ad) xs.length c]).run Tryz.prog W = .ok (.slice a' xs.length c') W' ∧ Own W' B 3 a' c' (ints xs) ∧ Below W.heap.size W W' := by
  obtain ⟨i0, hi0, hz0, hz1, hz2⟩ := info_parts Tryz.info3
  have hs : Src Tryz.prog i0.size 22 (.slice (some ad) xs.length c) xs.length (ints xs) W := by
    refine Src.ofSlice W Tryz.underlying22 ad xs.length c (ints xs) (by rw [ints_length, hz1, Nat.mul_one]) (fun j v hj => ?_) (fun v hv => ?_)
    · have hjl : j < xs.length := by have := (List.getElem?_eq_some_iff.1 hj).1; rwa [ints_length] at this
      rw [ints_get xs j hjl] at hj
      cases hj
      exact hc j hjl
    · simp only [ints, List.mem_map] at hv
      obtain ⟨_, _, rfl⟩ := hv
      rfl
  have hr := run_append_grow_src (P := Tryz.prog) W 22 22 ty 3 i0 (.int .i64 0) Tryz.underlying22 hi0 hz0 (some ⟨z, 0, none⟩) 0 0 [] (run_firstCells_some W.drew i0.size 0 ⟨z, 0, none⟩ 0 0 [] (by simp) (by simp)) (.slice (some ad) xs.length c) xs.length (ints xs) hs (by omega) (by omega) (growslice_fits (by omega) (by rw [hz2]; omega))
  rw [Nat.zero_add] at hr
  have hge := grownCap_ge W xs.length 0 3
  refine ⟨_, _, _, hr, ?_, (Below.refl _ _).drew.alloc (Nat.le_refl _) _⟩
  refine .inr ⟨_, 0, _, rfl, by simpa using hB, heap_alloc_new W.drew _, ?_, ?_, ?_⟩
  · rw [ints_length]; simpa using hge
  · simp [size_zeroCells, ints_length, Value.cells]; omega
  · intro j v hj
    have hlt : j < (ints xs).length := (List.getElem?_eq_some_iff.1 hj).1
    rw [Nat.zero_add, Array.getElem?_append_left (by simpa using hlt)]
    simpa using hj
set_option maxRecDepth 100000 in
set_option maxHeartbeats 4000000 in
theorem sclone_own (xs : List Int) (a : Option Addr) (c : Nat) (w : World) (hl : xs.length ≤ 1000000) (h0 : 0 < xs.length) (hx : IntsAt w a xs) :
    Calls Tryz.prog 25 #[.slice a xs.length c] w fun e w' => ∃ a' c', e = .returned (.slice a' xs.length c') ∧ Own w' w.heap.size 3 a' c' (ints xs) ∧ Below w.heap.size w w' := by
  obtain ⟨b, off, rfl, _⟩ := hx.open h0
  have hnil := nilTest (some ⟨b, off, none⟩) xs.length c
  simp only [Option.isNone_some] at hnil
  have hb : Below w.heap.size w (w.alloc (.cells #[] 3)) := (Below.refl _ _).alloc (Nat.le_refl _) _
  obtain ⟨a', c', W', hrun, hi, hbw⟩ := run_append_own (w.alloc (.cells #[] 3)) w.heap.size w.heap.size (by simp) xs ⟨b, off, none⟩ c 22 hl h0 (fun i hi => by
    have h1 := hx.later hb
    obtain ⟨b', off', he, _, hc⟩ := h1.open (by omega)
    simp only [Option.some.injEq] at he
    rw [he, Addr.add_lit]
    exact hc i hi)
  have Hi := Lib.hid hi
  have Hb := Lib.hid (below_step hb hbw)
  have Hrun := Lib.hid hrun
  clear hx hi hbw hb hrun
  go_enter Tryz.func25, Tryz.ntmps25
  go_wp2_with (refine wpList_append_all rfl (.tmp 5) (.tmp 6) rfl _ _ _ _ rfl rfl Hrun.out ?_)
  go_ret
  exact ⟨a', c', rfl, Hi.out, Hb.out⟩
set_option maxRecDepth 100000 in
set_option maxHeartbeats 4000000 in
theorem dclone_own (S M : List Int) (L : Int) (aS aM : Option Addr) (cS cM : Nat) (w : World) (hS0 : 0 < S.length) (hM0 : 0 < M.length) (hSl : S.length ≤ 1000000) (hMl : M.length ≤ 1000000) (hS : IntsAt w aS S) (hM : IntsAt w aM M) :
    Calls Tryz.prog 59 #[.agg #[.slice aS S.length cS, .slice aM M.length cM, .int .i64 L]] w fun e w' => ∃ a b c d, e = .returned (.agg #[.slice a S.length c, .slice b M.length d, .int .i64 L]) ∧ Own w' w.heap.size 3 a c (ints S) ∧ Own w' w.heap.size 3 b d (ints M) ∧ (∀ p q, a = some p → b = some q → p.block ≠ q.block) ∧ Below w.heap.size w w' := by
  have HS := Lib.hid hS
  have HM := Lib.hid hM
  have HcS : Hid (∀ W', Below w.heap.size w W' → Calls Tryz.prog 25 #[.slice aS S.length cS] W' fun e w' => ∃ a' c', e = .returned (.slice a' S.length c') ∧ Own w' W'.heap.size 3 a' c' (ints S) ∧ Below W'.heap.size W' w') := Lib.hid fun W' h => sclone_own S aS cS W' hSl hS0 (hS.later h)
  have HcM : Hid (∀ W', Below w.heap.size w W' → Calls Tryz.prog 25 #[.slice aM M.length cM] W' fun e w' => ∃ a' c', e = .returned (.slice a' M.length c') ∧ Own w' W'.heap.size 3 a' c' (ints M) ∧ Below W'.heap.size W' w') := Lib.hid fun W' h => sclone_own M aM cM W' hMl hM0 (hM.later h)
  have H0 := Lib.hid (((HH.start w).alloc #[.slice aS S.length cS, .slice aM M.length cM, .int .i64 L] 24 rfl rfl).alloc #[.slice none 0 0, .slice none 0 0, .int .i64 0] 24 (b := w.heap.size + 1) (by simp) rfl)
  have HKS : Hid (∀ (W' : World) (l : Kn) (s : List SlO), HH w W' ((w.heap.size, rowO 24 [.slice aS S.length cS, .slice aM M.length cM, .int .i64 L]) :: l) s → W'.cell? ⟨w.heap.size, 0, none⟩ = some (.slice aS S.length cS) ∧ W'.cell? ⟨w.heap.size, 1, none⟩ = some (.slice aM M.length cM) ∧ W'.cell? ⟨w.heap.size, 2, none⟩ = some (.int .i64 L)) := Lib.hid fun W' l s h => ⟨h.cell (k := 0) (i := 0) rfl rfl, h.cell (k := 0) (i := 1) rfl rfl, h.cell (k := 0) (i := 2) rfl rfl⟩
  clear hS hM hS0 hM0 hSl hMl
  go_enter Tryz.func59, Tryz.ntmps59
  go_upto_region 1 with fail
  have Hd := Lib.hid H0.out.drew
  clear H0
  generalize ((w.alloc (.cells #[.slice aS S.length cS, .slice aM M.length cM, .int .i64 L] 24)).alloc (.cells #[.slice none 0 0, .slice none 0 0, .int .i64 0] 24)) = W at *
  have Q0 := Lib.hid (HKS.out _ _ _ Hd.out)
  have hq0 := Q0.out
  go_region_held3 (fun W' => W'.cell? ⟨w.heap.size, 0, none⟩ = some (.slice aS S.length cS) ∧ W'.cell? ⟨w.heap.size, 1, none⟩ = some (.slice aM M.length cM) ∧ W'.cell? ⟨w.heap.size, 2, none⟩ = some (.int .i64 L))
    (first
      | with_reducible exact Q0.out
      | with_reducible exact Q1.out
      | with_reducible exact Q2.out
      | with_reducible exact Q9.out)
    (first
      | ((with_reducible refine (HcS.out _ Hd.out.below).mono ?_); rintro e w1 ⟨a1, c1, rfl, ho1, hb1⟩; have H1 := Lib.hid (Hd.out.addSl hb1 ho1); have Q1 := Lib.hid (HKS.out _ _ _ H1.out); clear ho1 hb1)
      | ((with_reducible refine (HcM.out _ Hd.out.below).mono ?_); rintro e w1 ⟨a2, c2, rfl, ho1, hb1⟩; have H1 := Lib.hid (Hd.out.addSl hb1 ho1); have Q1 := Lib.hid (HKS.out _ _ _ H1.out); clear ho1 hb1)
      | ((with_reducible refine (HcM.out _ H1.out.below).mono ?_); rintro e w2 ⟨a2, c2, rfl, ho2, hb2⟩; have H2 := Lib.hid (H1.out.addSl hb2 ho2); have Q2 := Lib.hid (HKS.out _ _ _ H2.out); clear ho2 hb2; have hd0 := H2.out.cell (k := 1) (i := 0) rfl rfl; have hf0 := H2.out.frozen (k := 1) rfl 0; have hd1 := H2.out.cell (k := 1) (i := 1) rfl rfl; have hf1 := H2.out.frozen (k := 1) rfl 1; have hd2 := H2.out.cell (k := 1) (i := 2) rfl rfl; have hf2 := H2.out.frozen (k := 1) rfl 2; have H9 := Lib.hid (((H2.out.set (k := 1) rfl 0 (.slice a1 S.length c1)).set (k := 1) rfl 1 (.slice a2 M.length c2)).set (k := 1) rfl 2 (.int .i64 L)); have Q9 := Lib.hid (HKS.out _ _ _ H9.out))
      | ((with_reducible refine (HcS.out _ H1.out.below).mono ?_); rintro e w2 ⟨a1, c1, rfl, ho2, hb2⟩; have H2 := Lib.hid (H1.out.addSl hb2 ho2); have Q2 := Lib.hid (HKS.out _ _ _ H2.out); clear ho2 hb2; have hd0 := H2.out.cell (k := 1) (i := 0) rfl rfl; have hf0 := H2.out.frozen (k := 1) rfl 0; have hd1 := H2.out.cell (k := 1) (i := 1) rfl rfl; have hf1 := H2.out.frozen (k := 1) rfl 1; have hd2 := H2.out.cell (k := 1) (i := 2) rfl rfl; have hf2 := H2.out.frozen (k := 1) rfl 2; have H9 := Lib.hid (((H2.out.set (k := 1) rfl 0 (.slice a1 S.length c1)).set (k := 1) rfl 1 (.slice a2 M.length c2)).set (k := 1) rfl 2 (.int .i64 L)); have Q9 := Lib.hid (HKS.out _ _ _ H9.out)))
  all_goals
    clear hd0 hd1 hd2 hf0 hf1 hf2
    have hF0 := H9.out.cell (k := 1) (i := 0) rfl rfl
    have hF1 := H9.out.cell (k := 1) (i := 1) rfl rfl
    have hF2 := H9.out.cell (k := 1) (i := 2) rfl rfl
    go_wp2_with fail
    refine bodyPost_ret (v := .agg #[.slice a1 S.length c1, .slice a2 M.length c2, .int .i64 L]) (by simp [results, Tryz.results59, go_sem, hF0, hF1, hF2]) rfl ?_
    have hp := H9.out.nd2
    simp only [List.nil_append, List.cons_append, List.pairwise_cons, List.mem_cons, List.not_mem_nil, or_false, forall_eq, false_imp_iff, implies_true, List.Pairwise.nil, and_true] at hp
  · exact ⟨_, _, _, _, rfl, H9.out.sl (k := 0) rfl, H9.out.sl (k := 1) rfl, hp, H9.out.below⟩
end Go.Proofs.YtmjoijfafachhaaGreatDoor


namespace Go.Proofs.YtmjoijfafachhaaGreatDoor
open Go Go.RowKit
theorem contains_nats (a : Option Addr) (cG : Nat) (G : List Nat) (x : Nat) (w : World) (h0 : 0 < G.length) (hb : G.length ≤ 1000000) (hG : IntsAt w a (nats G)) :
    Calls Tryz.prog 60 #[.slice a G.length cG, .int .i64 (x : Int)] w fun e w' => e = .returned (.bool (decide (x ∈ G))) ∧ w' = w := by
  have hl : (nats G).length = G.length := nats_length G
  obtain ⟨b, off, rfl, _, hc⟩ := hG.open (by rw [hl]; exact h0)
  refine (Tryz.slices_Contains_int b off G.length cG (nats G) (x : Int) w (by rw [hl]; exact Nat.le_refl _) (by omega) (fun j hj => hc j hj)).mono fun e w' ⟨he, hw⟩ => ⟨he.trans (ret_bool ?_), hw⟩
  rw [List.take_of_length_le (by rw [hl]; exact Nat.le_refl _)]
  by_cases h : x ∈ G
  · rw [decide_eq_true h]
    exact List.contains_iff_mem.2 (List.mem_map.2 ⟨x, h, rfl⟩)
  · rw [decide_eq_false h]
    refine Bool.eq_false_iff.2 fun e => h ?_
    obtain ⟨y, hy, e⟩ := List.mem_map.1 (List.contains_iff_mem.1 e)
    have : y = x := Int.ofNat.inj e
    rw [← this]; exact hy
/-- A box of three cells is written. -/
theorem Own.box3 {w : World} {B b : Nat} {a : Option Addr} {c : Nat} {vs ws : List Value} (h : Own w B 3 a c vs) (hr : Row w b 24 ws) (u0 u1 u2 : Value) : Own (((w.setCell ⟨b, 0, none⟩ u0).setCell ⟨b, 1, none⟩ u1).setCell ⟨b, 2, none⟩ u2) B 3 a c vs :=
  ((h.setOther hr (by decide) 0 u0).setOther (hr.set 0 u0) (by decide) 1 u1).setOther ((hr.set 0 u0).set 1 u1) (by decide) 2 u2
theorem OwnRows.box3 {w : World} {B b : Nat} {a : Option Addr} {c : Nat} {xss : List (List Int)} {ws : List Value} (h : OwnRows w B a c xss) (hr : Row w b 24 ws) (u0 u1 u2 : Value) : OwnRows (((w.setCell ⟨b, 0, none⟩ u0).setCell ⟨b, 1, none⟩ u1).setCell ⟨b, 2, none⟩ u2) B a c xss :=
  ((h.setOther hr (by decide) (by decide) 0 u0).setOther (hr.set 0 u0) (by decide) (by decide) 1 u1).setOther ((hr.set 0 u0).set 1 u1) (by decide) (by decide) 2 u2
/-- Two slices that a call gives, which lie apart. -/
theorem HH.addSl2 {w0 w w' : World} {l : Kn} {s : List SlO} {a b : Option Addr} {c d : Nat} {E E' : TypeId} {vs us : List Value} (_ : HH w0 w' l (s ++ [⟨a, c, E, vs⟩])) (h : HH w0 w l s) (hb : Below w.heap.size w w') (h1 : Own w' w.heap.size E a c vs) (h2 : Own w' w.heap.size E' b d us) (hne : ∀ p q, a = some p → b = some q → p.block ≠ q.block) : HH w0 w' l (s ++ [⟨a, c, E, vs⟩, ⟨b, d, E', us⟩]) := by
  have g := h.addSl hb h1
  have g2 := h.addSl hb h2
  refine ⟨g.below, g.blk, fun x hx => ?_, g.nd1, ?_, fun x hx y hy => ?_⟩
  · rw [show s ++ [⟨a, c, E, vs⟩, ⟨b, d, E', us⟩] = (s ++ [⟨a, c, E, vs⟩]) ++ [⟨b, d, E', us⟩] by simp] at hx
    rcases List.mem_append.1 hx with e | e
    · exact g.own x e
    · exact g2.own x (List.mem_append.2 (.inr e))
  · rw [show s ++ [⟨a, c, E, vs⟩, ⟨b, d, E', us⟩] = (s ++ [⟨a, c, E, vs⟩]) ++ [⟨b, d, E', us⟩] by simp, List.pairwise_append]
    refine ⟨g.nd2, List.pairwise_singleton _ _, fun x hx y hy => ?_⟩
    rcases List.mem_append.1 hx with e | e
    · exact (List.pairwise_append.1 g2.nd2).2.2 x e y hy
    · obtain rfl := List.mem_singleton.1 e
      obtain rfl := List.mem_singleton.1 hy
      exact hne
  · rw [show s ++ [⟨a, c, E, vs⟩, ⟨b, d, E', us⟩] = (s ++ [⟨a, c, E, vs⟩]) ++ [⟨b, d, E', us⟩] by simp] at hy
    rcases List.mem_append.1 hy with e | e
    · exact g.nd3 x hx y e
    · exact g2.nd3 x hx y (List.mem_append.2 (.inr e))
set_option maxRecDepth 100000 in
set_option maxHeartbeats 4000000 in
theorem factor_yes (S M : List Int) (L : Int) (aS aM : Option Addr) (cS cM : Nat) (x y : Nat) (w : World) (hv : vldB S M L = true) (hx : x < 4 * S.length) (hy : y < 4 * S.length) (hox : outB S x = true) (hoy : outB S y = true) (hxy : x ≠ y) (h1 : OnOrb (fc M) x y) (h2 : OnOrb (fc M) (mt M x) (mt M y)) (hS : IntsAt w aS S) (hM : IntsAt w aM M) :
    Calls Tryz.prog 39 #[.agg #[.slice aS S.length cS, .slice aM M.length cM, .int .i64 L], .int .i64 (x : Int), .int .i64 (y : Int)] w fun e w' => ∃ a b c d a' b' c' d', e = .returned (.tuple #[.agg #[.slice a (facA S M x y).1.length c, .slice b (facA S M x y).2.1.length d, .int .i64 0], .agg #[.slice a' (facB S M x y).1.length c', .slice b' (facB S M x y).2.1.length d', .int .i64 0], .int .i64 0]) ∧
      Own w' w.heap.size 3 a c (ints (facA S M x y).1) ∧ Own w' w.heap.size 3 b d (ints (facA S M x y).2.1) ∧ Own w' w.heap.size 3 a' c' (ints (facB S M x y).1) ∧ Own w' w.heap.size 3 b' d' (ints (facB S M x y).2.1) ∧ Below w.heap.size w w' := by
  have hs := vldB_shape hv
  have hfw := hs.few
  have hml := hs.len
  have hmt := hs.mates2
  obtain ⟨hv', _⟩ := fac_good hv hx hy hox hoy hxy h1 h2
  have hs' := vldB_shape hv'
  have hcut : cutB S (leftL M S.length) M x y = true := (cutB_iff hv hx hy).2 ⟨hox, hoy, h1, h2⟩
  have HV : Hid (∀ W', Below w.heap.size w W' → Calls Tryz.prog 15 #[.agg #[.slice aS S.length cS, .slice aM M.length cM, .int .i64 L]] W' fun e w' => e = .returned (.bool true) ∧ Below W'.heap.size W' w') := Lib.hid fun W' h => by
    have g := valid_any S M L aS aM cS cM W' (by omega) (by rw [hs.len]; omega) (hS.later h) (hM.later h)
    rw [hv] at g; exact g
  have HF : Hid (∀ W', Below w.heap.size w W' → Calls Tryz.prog 23 #[.agg #[.slice aS S.length cS, .slice aM M.length cM, .int .i64 L]] W' fun e w' => ∃ a c, e = .returned (.slice a (4 * S.length) c) ∧ Own w' W'.heap.size 3 a c (ints (leftL M S.length)) ∧ Below W'.heap.size W' w') := Lib.hid fun W' h => left_any S M L aS aM cS cM W' hv (hS.later h) (hM.later h)
  have HOx : Hid (∀ W', Below w.heap.size w W' → Calls Tryz.prog 24 #[.agg #[.slice aS S.length cS, .slice aM M.length cM, .int .i64 L], .int .i64 (x : Int)] W' fun e w' => e = .returned (.bool true) ∧ Below W'.heap.size W' w') := Lib.hid fun W' hb => by
    have g := coutgoing_any S M L aS aM cS cM x W' hx (by omega) (hS.later hb)
    rw [hox] at g; exact g
  have HOy : Hid (∀ W', Below w.heap.size w W' → Calls Tryz.prog 24 #[.agg #[.slice aS S.length cS, .slice aM M.length cM, .int .i64 L], .int .i64 (y : Int)] W' fun e w' => e = .returned (.bool true) ∧ Below W'.heap.size W' w') := Lib.hid fun W' hb => by
    have g := coutgoing_any S M L aS aM cS cM y W' hy (by omega) (hS.later hb)
    rw [hoy] at g; exact g
  have HCl : Hid (∀ W', Below w.heap.size w W' → Calls Tryz.prog 59 #[.agg #[.slice aS S.length cS, .slice aM M.length cM, .int .i64 L]] W' fun e w' => ∃ a b c d, e = .returned (.agg #[.slice a S.length c, .slice b M.length d, .int .i64 L]) ∧ Own w' W'.heap.size 3 a c (ints S) ∧ Own w' W'.heap.size 3 b d (ints M) ∧ (∀ p q, a = some p → b = some q → p.block ≠ q.block) ∧ Below W'.heap.size W' w') := Lib.hid fun W' hb => dclone_own S M L aS aM cS cM W' (by omega) (by omega) (by omega) (by omega) (hS.later hb) (hM.later hb)
  have hrx := hs.range x (by omega)
  have hry := hs.range y (by omega)
  have HC : Hid (∀ (A : Option Addr) (c B : Nat) (W' : World), Own W' B 3 A c (ints M) → Calls Tryz.prog 22 #[.slice A M.length c, .int .i64 (x : Int), .int .i64 (y : Int)] W' fun e w' => e = .returned (.tuple #[]) ∧ Own w' B 3 A c (ints (crossL M x y)) ∧ Turned W' w' A) := Lib.hid fun A c B W' ho =>
    cross_any M A c B x y W' (by omega) (by omega) (by omega) (by omega) (by omega) ho
  have hul : (crossL M x y).length = M.length := crossL_len M x y
  have HG : Hid (∀ (a b : Option Addr) (c d : Nat) W', IntsAt W' a S → IntsAt W' b (crossL M x y) → Calls Tryz.prog 37 #[.agg #[.slice a S.length c, .slice b M.length d, .int .i64 L]] W' fun e w' => ∃ a c, e = .returned (.slice a (grpOf (crossL M x y) S.length).length c) ∧ OwnRows w' W'.heap.size a c ((grpOf (crossL M x y) S.length).map nats) ∧ Below W'.heap.size W' w') := Lib.hid fun a b c d W' ha hb => by
    have g := graph_any S (crossL M x y) L a b c d W' hv' ha hb
    rw [hul] at g; exact g
  have hmem : ∀ i, i < (grpOf (crossL M x y) S.length).length → (grpOf (crossL M x y) S.length).getD i [] ∈ grpOf (crossL M x y) S.length := fun i hi => by
    rw [List.getD_eq_getElem?_getD, List.getElem?_eq_getElem hi]; exact List.getElem_mem hi
  have HP : Hid (∀ i, i < (grpOf (crossL M x y) S.length).length → ∀ (a b aG : Option Addr) (c d cG : Nat) W', IntsAt W' a S → IntsAt W' b (crossL M x y) → IntsAt W' aG (nats ((grpOf (crossL M x y) S.length).getD i [])) → Calls Tryz.prog 38 #[.agg #[.slice a S.length c, .slice b M.length d, .int .i64 L], .slice aG ((grpOf (crossL M x y) S.length).getD i []).length cG] W' fun e w' => ∃ a b c d, e = .returned (.agg #[.slice a ((grpOf (crossL M x y) S.length).getD i []).length c, .slice b (4 * ((grpOf (crossL M x y) S.length).getD i []).length) d, .int .i64 0]) ∧ Own w' W'.heap.size 3 a c (ints (partS S ((grpOf (crossL M x y) S.length).getD i []))) ∧ Own w' W'.heap.size 3 b d (ints (partM (crossL M x y) ((grpOf (crossL M x y) S.length).getD i []))) ∧ Below W'.heap.size W' w') := Lib.hid fun i hi a b aG c d cG W' ha hb hg => by
    have g := part_any S (crossL M x y) L a b aG c d cG _ W' hv' (grp_whole hs'.mates2.ok (hmem i hi)).1 ha hb hg
    rw [hul] at g; exact g
  have hgl := grp_len (crossL M x y) S.length
  have HGn : Hid (∀ i, i < (grpOf (crossL M x y) S.length).length → 0 < ((grpOf (crossL M x y) S.length).getD i []).length ∧ ((grpOf (crossL M x y) S.length).getD i []).length ≤ 1000000) := Lib.hid fun i hi => by
    obtain ⟨hw, h0⟩ := grp_whole hs'.mates2.ok (hmem i hi)
    refine ⟨h0, ?_⟩
    have := hw.nd.length_le_of_subset (l₂ := List.range S.length) fun c hc => List.mem_range.2 (hw.lt c hc)
    rw [List.length_range] at this
    omega
  have HSx : Hid (facA S M x y = (partS S (selG (grpOf (crossL M x y) S.length) (x / 4)), partM (crossL M x y) (selG (grpOf (crossL M x y) S.length) (x / 4)), 0)) := Lib.hid (by rw [selG_grp hs'.mates2.ok (by omega)]; rfl)
  have HSy : Hid (facB S M x y = (partS S (selG (grpOf (crossL M x y) S.length) (y / 4)), partM (crossL M x y) (selG (grpOf (crossL M x y) S.length) (y / 4)), 0)) := Lib.hid (by rw [selG_grp hs'.mates2.ok (by omega)]; rfl)
  have hFl : (leftL M S.length).length = 4 * S.length := leftTo_len _ _ _
  have H0 := Lib.hid ((((HH.start w).alloc #[.slice aS S.length cS, .slice aM M.length cM, .int .i64 L] 24 rfl rfl).alloc #[.slice none 0 0, .slice none 0 0, .int .i64 0] 24 (b := w.heap.size + 1) (by simp) rfl).alloc #[.slice none 0 0, .slice none 0 0, .int .i64 0] 24 (b := w.heap.size + 2) (by simp) rfl)
  rw [HSx.out, HSy.out]
  obtain ⟨p, hp, hpv, hpm⟩ : ∃ p : Nat, p < 4 * S.length ∧ nth M x = (p : Int) ∧ mt M x = p := ⟨mt M x, hs.mt_lt hx, by unfold mt; omega, rfl⟩
  obtain ⟨q, hq, hqv, hqm⟩ : ∃ q : Nat, q < 4 * S.length ∧ nth M y = (q : Int) ∧ mt M y = q := ⟨mt M y, hs.mt_lt hy, by unfold mt; omega, rfl⟩
  have hct : nth (leftL M S.length) x = nth (leftL M S.length) y ∧ nth (leftL M S.length) p = nth (leftL M S.length) q := by
    unfold cutB at hcut
    rw [hpm, hqm] at hcut
    simp only [Bool.and_eq_true, beq_iff_eq] at hcut
    exact ⟨hcut.1.2, hcut.2⟩
  have HM := Lib.hid hM
  have d1 : decide ((x : Int) < 0) = false := decide_eq_false (by omega)
  have d2 : decide ((y : Int) < 0) = false := decide_eq_false (by omega)
  have d3 : decide (M.length ≤ x) = false := decide_eq_false (by omega)
  have d4 : decide (M.length ≤ y) = false := decide_eq_false (by omega)
  have hMf : M.length ≤ 256 := by omega
  have hx255 : x ≤ 255 := by omega
  have hy255 : y ≤ 255 := by omega
  have Hpl : Hid (x < M.length ∧ y < M.length ∧ p < M.length ∧ q < M.length) := Lib.hid (by omega)
  rw [← hml] at HF hFl
  obtain ⟨x4, hx4⟩ : ∃ x4, x4 = x / 4 := ⟨_, rfl⟩
  obtain ⟨y4, hy4⟩ : ∃ y4, y4 = y / 4 := ⟨_, rfl⟩
  have wx : IntKind.i64.wrap ((x : Int) / 4) = (x4 : Int) := by rw [wrapi_mid (by omega) (by omega)]; omega
  have wy : IntKind.i64.wrap ((y : Int) / 4) = (y4 : Int) := by rw [wrapi_mid (by omega) (by omega)]; omega
  rw [← hx4, ← hy4]
  clear hx4 hy4
  clear hs hs' hv hv' hmt h1 h2 hcut hS hM hrx hry hmem HSx HSy hpm hqm hp hq hx hy hox hoy hul
  obtain ⟨N, hN⟩ : ∃ N, N = M.length := ⟨_, rfl⟩
  rw [← hN] at HV HF HOx HOy HCl HC HG HP hFl d3 d4 hMf H0 Hpl ⊢
  have HN := Lib.hid hN
  clear hN hml
  generalize leftL M S.length = F at *
  generalize hU : crossL M x y = U at *
  clear hU
  generalize grpOf U S.length = gs at *
  generalize hn : S.length = n at *
  clear hn
  go_enter Tryz.func39, Tryz.ntmps39
  go_wp2_with fail
  refine (HV.out _ H0.out.below).mono ?_
  rintro e w1 ⟨rfl, hb⟩
  have H1 := Lib.hid (H0.out.call hb)
  clear hb H0 HV
  have k0 := H1.out.cell (k := 0) (i := 0) rfl rfl
  have k1 := H1.out.cell (k := 0) (i := 1) rfl rfl
  have k2 := H1.out.cell (k := 0) (i := 2) rfl rfl
  go_wp2_with fail
  clear k0 k1 k2
  refine (HOx.out _ H1.out.below).mono ?_
  rintro e w2 ⟨rfl, hb⟩
  have H2 := Lib.hid (H1.out.call hb)
  clear hb H1 HOx
  have k0_0 := H2.out.cell (k := 0) (i := 0) rfl rfl
  have k0_1 := H2.out.cell (k := 0) (i := 1) rfl rfl
  have k0_2 := H2.out.cell (k := 0) (i := 2) rfl rfl
  go_wp2_with fail
  clear k0_0 k0_1 k0_2
  refine (HOy.out _ H2.out.below).mono ?_
  rintro e w3 ⟨rfl, hb⟩
  have H3 := Lib.hid (H2.out.call hb)
  clear hb H2 HOy
  have k0_0 := H3.out.cell (k := 0) (i := 0) rfl rfl
  have k0_1 := H3.out.cell (k := 0) (i := 1) rfl rfl
  have k0_2 := H3.out.cell (k := 0) (i := 2) rfl rfl
  go_wp2_with fail
  clear k0_0 k0_1 k0_2
  refine (HF.out _ H3.out.below).mono ?_
  rintro e w4 ⟨aF, cF, rfl, ho, hb⟩
  have H4 := Lib.hid (H3.out.addSl hb ho)
  clear hb H3 ho HF
  have hpl := Hpl.out
  obtain ⟨bM, oM, rfl, _, hcM⟩ := (HM.out.later H4.out.below).open (by rw [← HN.out]; omega)
  obtain ⟨bF, oF, rfl, _, _, hcF, _⟩ := (H4.out.sl (k := 0) rfl).open (by show 0 < (ints F).length; rw [ints_length]; omega)
  have hcF : ∀ i v, (ints F)[i]? = some v → w4.cell? ⟨bF, oF + i, none⟩ = some v := hcF
  have m1 := hcM x (by rw [← HN.out]; omega)
  have m2 := hcM y (by rw [← HN.out]; omega)
  rw [hpv] at m1
  rw [hqv] at m2
  have f1 := hcF _ _ (ints_get F x (by omega))
  have f2 := hcF _ _ (ints_get F y (by omega))
  have f3 := hcF _ _ (ints_get F p (by omega))
  have f4 := hcF _ _ (ints_get F q (by omega))
  rw [hct.1] at f1
  rw [hct.2] at f3
  have e0 : ((x : Int) == (y : Int)) = false := by rw [beq_eq_false_iff_ne]; omega
  have e1 : decide ((x : Int) = (y : Int)) = false := decide_eq_false (by omega)
  have e2 : decide (x = y) = false := decide_eq_false hxy
  have g1 : decide ((p : Int) < 0) = false := decide_eq_false (by omega)
  have g2 : decide ((q : Int) < 0) = false := decide_eq_false (by omega)
  clear hct hcM hcF hpv hqv
  have k0_1 := H4.out.cell (k := 0) (i := 1) rfl rfl
  go_upto_region 7 with fail
  go_quiet (fail)
  clear k0_1 m1 m2 f1 f2 f3 f4 e0 e1 e2 g1 g2
  have H5 := Lib.hid (H4.out.drewN nq)
  clear H4
  generalize w4.drewN nq = w5 at *
  have k0_0 := H5.out.cell (k := 0) (i := 0) rfl rfl
  have k0_1 := H5.out.cell (k := 0) (i := 1) rfl rfl
  have k0_2 := H5.out.cell (k := 0) (i := 2) rfl rfl
  go_wp2_with fail
  clear k0_0 k0_1 k0_2
  refine (HCl.out _ H5.out.below).mono ?_
  rintro e w6 ⟨aX, bX, cX, dX, rfl, ho1, ho2, hne, hb⟩
  have H6 : Hid (HH w w6 [(w.heap.size, rowO 24 [.slice aS n cS, .slice (some ⟨bM, oM, none⟩) N cM, .int .i64 L]), (w.heap.size + 1, rowO 24 [.slice none 0 0, .slice none 0 0, .int .i64 0]), (w.heap.size + 2, rowO 24 [.slice none 0 0, .slice none 0 0, .int .i64 0])] [⟨some ⟨bF, oF, none⟩, cF, 3, ints F⟩, ⟨aX, cX, 3, ints S⟩, ⟨bX, dX, 3, ints M⟩]) := Lib.hid ((H5.out.addSl hb ho1).addSl2 H5.out hb ho1 ho2 hne)
  clear ho1 ho2 hne hb H5 HCl
  have H7 := Lib.hid (H6.out.alloc #[.slice aX n cX, .slice bX N dX, .int .i64 L] 24 rfl rfl)
  have hq : w.heap.size ≤ w6.heap.size := H6.out.below.size
  clear H6
  have k3_0 := H7.out.cell (k := 3) (i := 0) rfl rfl
  have k3_1 := H7.out.cell (k := 3) (i := 1) rfl rfl
  have k3_2 := H7.out.cell (k := 3) (i := 2) rfl rfl
  go_wp2_with fail
  clear k3_0 k3_1 k3_2
  refine (HC.out bX dX w.heap.size _ (H7.out.sl (k := 2) rfl)).mono ?_
  rintro e w7 ⟨rfl, ho, ht⟩
  have H8 := Lib.hid (H7.out.grow (k := 2) rfl ho ht (fun x hx => .inr ⟨x, hx, rfl⟩))
  clear ho ht H7 HC
  generalize w6.heap.size = r at *
  have H9 := Lib.hid ((H8.out.alloc #[.slice none 0 0, .slice none 0 0, .int .i64 0] 24 (b := w7.heap.size) rfl rfl).alloc #[.slice none 0 0, .slice none 0 0, .int .i64 0] 24 (b := w7.heap.size + 1) (by simp) rfl)
  have hq8 : w.heap.size + 2 < w7.heap.size := (H8.out.obj (k := 2) rfl).2.1
  clear H8
  have k3_0 := H9.out.cell (k := 3) (i := 0) rfl rfl
  have k3_1 := H9.out.cell (k := 3) (i := 1) rfl rfl
  have k3_2 := H9.out.cell (k := 3) (i := 2) rfl rfl
  go_wp2_with fail
  clear k3_0 k3_1 k3_2
  refine (HG.out aX bX cX dX _ (H9.out.sl (k := 1) rfl).ints (H9.out.sl (k := 2) rfl).ints).mono ?_
  rintro e w10 ⟨aP, cP, rfl, ho, hb⟩
  have H10 := Lib.hid (H9.out.call hb)
  have HO := Lib.hid (ho.mono (show w.heap.size ≤ _ from H9.out.below.size))
  clear ho hb H9 HG
  generalize w7.heap.size = s at *
  go_wp2_with fail
  go_loopg [101] gs.length (fun g v wr => ∃ (i : Nat) (a1 b1 a2 b2 : Option Addr) (c1 d1 c2 d2 : Nat) (G1 G2 : List Nat), i ≤ gs.length ∧ g = gs.length - i ∧ v = .int .i64 i ∧ selG (gs.take i) x4 = G1 ∧ selG (gs.take i) y4 = G2 ∧ OwnRows wr w.heap.size aP cP (gs.map nats) ∧ HH w wr [(w.heap.size, rowO 24 [.slice aS n cS, .slice (some ⟨bM, oM, none⟩) N cM, .int .i64 L]), (w.heap.size + 1, rowO 24 [.slice none 0 0, .slice none 0 0, .int .i64 0]), (w.heap.size + 2, rowO 24 [.slice none 0 0, .slice none 0 0, .int .i64 0]), (r, rowO 24 [.slice aX n cX, .slice bX N dX, .int .i64 L]), (s, rowO 24 [.slice a1 G1.length c1, .slice b1 (4 * G1.length) d1, .int .i64 0]), (s + 1, rowO 24 [.slice a2 G2.length c2, .slice b2 (4 * G2.length) d2, .int .i64 0])] [⟨some ⟨bF, oF, none⟩, cF, 3, ints F⟩, ⟨aX, cX, 3, ints S⟩, ⟨bX, dX, 3, ints U⟩] ∧ Own wr w.heap.size 3 a1 c1 (ints (partS S G1)) ∧ Own wr w.heap.size 3 b1 d1 (ints (partM U G1)) ∧ Own wr w.heap.size 3 a2 c2 (ints (partS S G2)) ∧ Own wr w.heap.size 3 b2 d2 (ints (partM U G2)))
  case atStart => exact ⟨0, none, none, none, none, 0, 0, 0, 0, [], [], Nat.zero_le _, rfl, rfl, rfl, rfl, HO.out, H10.out, Own.nil _ _ _, Own.nil _ _ _, Own.nil _ _ _, Own.nil _ _ _⟩
  case round =>
    obtain ⟨i, a1, b1, a2, b2, c1, d1, c2, d2, G1, G2, hi, rfl, rfl, hg1, hg2, ho, hh, o1, o2, o3, o4⟩ := hrel
    replace HO := Lib.hid ho
    have Hh := Lib.hid hh
    have HG12 := Lib.hid (And.intro hg1 hg2)
    have HOs := Lib.hid (And.intro (And.intro o1 o2) (And.intro o3 o4))
    clear ho hh H10 hg1 hg2 o1 o2 o3 o4
    by_cases hil : i < gs.length
    · obtain ⟨b8, o8, rfl, _, _, hrow⟩ := HO.out.open (by rw [List.length_map]; omega)
      obtain ⟨a', c', hci, hro⟩ := hrow i (nats (gs.getD i [])) (by rw [List.getElem?_map, getD_some (d := []) hil]; rfl)
      rw [nats_length] at hci
      have HPi := Lib.hid (HP.out i hil)
      have hgn := HGn.out i hil
      have Hgx := Lib.hid (selG_take x4 hil)
      have Hgy := Lib.hid (selG_take y4 hil)
      have HGa := Lib.hid hro
      generalize gs.getD i [] = Gi at *
      clear hrow hro
      rw [HG12.out.1] at Hgx
      rw [HG12.out.2] at Hgy
      have Hgn := Lib.hid hgn
      have HcX : Hid (∀ W', IntsAt W' a' (nats Gi) → Calls Tryz.prog 60 #[.slice a' Gi.length c', .int .i64 (x4 : Int)] W' fun e w' => e = .returned (.bool (decide (x4 ∈ Gi))) ∧ w' = W') := Lib.hid fun W' h => contains_nats a' c' Gi x4 W' Hgn.out.1 Hgn.out.2 h
      have HcY : Hid (∀ W', IntsAt W' a' (nats Gi) → Calls Tryz.prog 60 #[.slice a' Gi.length c', .int .i64 (y4 : Int)] W' fun e w' => e = .returned (.bool (decide (y4 ∈ Gi))) ∧ w' = W') := Lib.hid fun W' h => contains_nats a' c' Gi y4 W' Hgn.out.1 Hgn.out.2 h
      clear hgn HG12
      go_wp2_with fail
      refine (HcX.out wr HGa.out.ints).mono ?_
      rintro e w1 ⟨rfl, hw⟩
      subst hw
      clear HcX
      obtain ⟨Gn, hGn⟩ : ∃ Gn, Gn = if x4 ∈ Gi then Gi else G1 := ⟨_, rfl⟩
      go_upto_if 108 with fail
      go_cut [] (fun wx => ∃ (a1 b1 : Option Addr) (c1 d1 : Nat), OwnRows wx w.heap.size (some ⟨b8, o8, none⟩) cP (gs.map nats) ∧ Own wx w.heap.size 3 a' c' (ints (nats Gi)) ∧ HH w wx [(w.heap.size, rowO 24 [.slice aS n cS, .slice (some ⟨bM, oM, none⟩) N cM, .int .i64 L]), (w.heap.size + 1, rowO 24 [.slice none 0 0, .slice none 0 0, .int .i64 0]), (w.heap.size + 2, rowO 24 [.slice none 0 0, .slice none 0 0, .int .i64 0]), (r, rowO 24 [.slice aX n cX, .slice bX N dX, .int .i64 L]), (s, rowO 24 [.slice a1 Gn.length c1, .slice b1 (4 * Gn.length) d1, .int .i64 0]), (s + 1, rowO 24 [.slice a2 G2.length c2, .slice b2 (4 * G2.length) d2, .int .i64 0])] [⟨some ⟨bF, oF, none⟩, cF, 3, ints F⟩, ⟨aX, cX, 3, ints S⟩, ⟨bX, dX, 3, ints U⟩] ∧ Own wx w.heap.size 3 a1 c1 (ints (partS S Gn)) ∧ Own wx w.heap.size 3 b1 d1 (ints (partM U Gn)) ∧ Own wx w.heap.size 3 a2 c2 (ints (partS S G2)) ∧ Own wx w.heap.size 3 b2 d2 (ints (partM U G2)))
      case first =>
        by_cases hcx : x4 ∈ Gi
        · rw [if_pos hcx] at hGn
          have HGn := Lib.hid hGn
          clear hGn
          have tx : decide (x4 ∈ Gi) = true := decide_eq_true hcx
          have k0 := Hh.out.cell (k := 3) (i := 0) rfl rfl
          have k1 := Hh.out.cell (k := 3) (i := 1) rfl rfl
          have k2 := Hh.out.cell (k := 3) (i := 2) rfl rfl
          go_wp2_with fail
          clear k0 k1 k2
          refine (HPi.out aX bX a' cX dX c' _ (Hh.out.sl (k := 1) rfl).ints (Hh.out.sl (k := 2) rfl).ints HGa.out.ints).mono ?_
          rintro e w5 ⟨a5, b5, c5, d5, rfl, ho1, ho2, hb⟩
          have H5 := Lib.hid (Hh.out.call hb)
          have HN1 := Lib.hid (ho1.mono Hh.out.below.size)
          have HN2 := Lib.hid (ho2.mono Hh.out.below.size)
          have HN3 := Lib.hid (HOs.out.2.1.later hb (Nat.le_refl _))
          have HN4 := Lib.hid (HOs.out.2.2.later hb (Nat.le_refl _))
          replace HO := Lib.hid (HO.out.later hb (Nat.le_refl _))
          replace HGa := Lib.hid (HGa.out.later hb (Nat.le_refl _))
          clear ho1 ho2 hb Hh HOs
          have k0 := H5.out.cell (k := 4) (i := 0) rfl rfl
          have k1 := H5.out.cell (k := 4) (i := 1) rfl rfl
          have k2 := H5.out.cell (k := 4) (i := 2) rfl rfl
          have f0 := H5.out.frozen (k := 4) rfl 0
          have f1 := H5.out.frozen (k := 4) rfl 1
          have f2 := H5.out.frozen (k := 4) rfl 2
          go_wp2_with fail
          clear k0 k1 k2 f0 f1 f2
          go_meet
          have hr := H5.out.row (k := 4) rfl
          rw [HGn.out]
          exact ⟨a5, b5, c5, d5, HO.out.box3 hr _ _ _, HGa.out.box3 hr _ _ _, ((H5.out.set (k := 4) rfl 0 _).set (k := 4) rfl 1 _).set (k := 4) rfl 2 _, HN1.out.box3 hr _ _ _, HN2.out.box3 hr _ _ _, HN3.out.box3 hr _ _ _, HN4.out.box3 hr _ _ _⟩
        · rw [if_neg hcx] at hGn
          have HGn := Lib.hid hGn
          clear hGn
          have tx : decide (x4 ∈ Gi) = false := decide_eq_false hcx
          go_wp2_with fail
          go_meet
          rw [HGn.out]
          exact ⟨a1, b1, c1, d1, HO.out, HGa.out, Hh.out, HOs.out.1.1, HOs.out.1.2, HOs.out.2.1, HOs.out.2.2⟩
      case rest =>
        obtain ⟨a1, b1, c1, d1, ho, hga, hh, o1, o2, o3, o4⟩ := hcut
        replace HO := Lib.hid ho
        replace Hh := Lib.hid hh
        replace HGa := Lib.hid hga
        replace HOs := Lib.hid (And.intro (And.intro o1 o2) (And.intro o3 o4))
        clear ho hh hga o1 o2 o3 o4
        rw [hGn, ← Hgx.out] at Hh HOs
        clear hGn
        obtain ⟨G3, hG3⟩ : ∃ G3, selG (gs.take (i + 1)) x4 = G3 := ⟨_, rfl⟩
        rw [hG3] at Hh HOs
        have HG3 := Lib.hid hG3
        clear hG3 Hgx
        go_wp2_with fail
        refine (HcY.out wc HGa.out.ints).mono ?_
        rintro e w1 ⟨rfl, hw⟩
        subst hw
        clear HcY
        by_cases hcx : y4 ∈ Gi
        · have tx : decide (y4 ∈ Gi) = true := decide_eq_true hcx
          have HG4 : Hid (selG (gs.take (i + 1)) y4 = Gi) := Lib.hid (by rw [Hgy.out, if_pos hcx])
          have k0 := Hh.out.cell (k := 3) (i := 0) rfl rfl
          have k1 := Hh.out.cell (k := 3) (i := 1) rfl rfl
          have k2 := Hh.out.cell (k := 3) (i := 2) rfl rfl
          clear Hgy
          go_wp2_with fail
          clear k0 k1 k2
          refine (HPi.out aX bX a' cX dX c' _ (Hh.out.sl (k := 1) rfl).ints (Hh.out.sl (k := 2) rfl).ints HGa.out.ints).mono ?_
          rintro e w5 ⟨a5, b5, c5, d5, rfl, ho1, ho2, hb⟩
          have H5 := Lib.hid (Hh.out.call hb)
          have HN1 := Lib.hid (ho1.mono Hh.out.below.size)
          have HN2 := Lib.hid (ho2.mono Hh.out.below.size)
          have HN3 := Lib.hid (HOs.out.1.1.later hb (Nat.le_refl _))
          have HN4 := Lib.hid (HOs.out.1.2.later hb (Nat.le_refl _))
          replace HO := Lib.hid (HO.out.later hb (Nat.le_refl _))
          clear ho1 ho2 hb Hh HOs HGa
          have k0 := H5.out.cell (k := 5) (i := 0) rfl rfl
          have k1 := H5.out.cell (k := 5) (i := 1) rfl rfl
          have k2 := H5.out.cell (k := 5) (i := 2) rfl rfl
          have f0 := H5.out.frozen (k := 5) rfl 0
          have f1 := H5.out.frozen (k := 5) rfl 1
          have f2 := H5.out.frozen (k := 5) rfl 2
          go_wp2_with fail
          clear k0 k1 k2 f0 f1 f2
          have hr := H5.out.row (k := 5) rfl
          go_roundg (gs.length - (i + 1))
          case measure => omega
          case rel => exact ⟨i + 1, a1, b1, a5, b5, c1, d1, c5, d5, G3, Gi, by omega, rfl, by go_num, HG3.out, HG4.out, HO.out.box3 hr _ _ _, ((H5.out.set (k := 5) rfl 0 _).set (k := 5) rfl 1 _).set (k := 5) rfl 2 _, HN3.out.box3 hr _ _ _, HN4.out.box3 hr _ _ _, HN1.out.box3 hr _ _ _, HN2.out.box3 hr _ _ _⟩
        · have tx : decide (y4 ∈ Gi) = false := decide_eq_false hcx
          have HG4 : Hid (selG (gs.take (i + 1)) y4 = G2) := Lib.hid (by rw [Hgy.out, if_neg hcx])
          clear Hgy
          go_wp2_with fail
          go_roundg (gs.length - (i + 1))
          case measure => omega
          case rel => exact ⟨i + 1, a1, b1, a2, b2, c1, d1, c2, d2, G3, G2, by omega, rfl, by go_num, HG3.out, HG4.out, HO.out, Hh.out, HOs.out.1.1, HOs.out.1.2, HOs.out.2.1, HOs.out.2.2⟩
    · obtain rfl : i = gs.length := by omega
      have k40 := Hh.out.cell (k := 4) (i := 0) rfl rfl
      have k41 := Hh.out.cell (k := 4) (i := 1) rfl rfl
      have k42 := Hh.out.cell (k := 4) (i := 2) rfl rfl
      have k50 := Hh.out.cell (k := 5) (i := 0) rfl rfl
      have k51 := Hh.out.cell (k := 5) (i := 1) rfl rfl
      have k52 := Hh.out.cell (k := 5) (i := 2) rfl rfl
      have f10 := Hh.out.frozen (k := 1) rfl 0
      have f11 := Hh.out.frozen (k := 1) rfl 1
      have f12 := Hh.out.frozen (k := 1) rfl 2
      have f20 := Hh.out.frozen (k := 2) rfl 0
      have f21 := Hh.out.frozen (k := 2) rfl 1
      have f22 := Hh.out.frozen (k := 2) rfl 2
      have k10 := Hh.out.cell (k := 1) (i := 0) rfl rfl
      have k11 := Hh.out.cell (k := 1) (i := 1) rfl rfl
      have k12 := Hh.out.cell (k := 1) (i := 2) rfl rfl
      have k20 := Hh.out.cell (k := 2) (i := 0) rfl rfl
      have k21 := Hh.out.cell (k := 2) (i := 1) rfl rfl
      have k22 := Hh.out.cell (k := 2) (i := 2) rfl rfl
      have n1 : ¬ s = w.heap.size := by omega
      have n2 : ¬ s = w.heap.size + 1 := by omega
      have n3 : ¬ s = w.heap.size + 2 := by omega
      have n4 : ¬ s + 1 = w.heap.size + 1 := by omega
      have n5 : ¬ s + 1 = w.heap.size + 2 := by omega
      have n6 : ¬ w.heap.size + 1 = s := by omega
      have n7 : ¬ w.heap.size + 2 = s := by omega
      have n8 : ¬ w.heap.size + 2 = s + 1 := by omega
      have n9 : ¬ w.heap.size = s := by omega
      go_upto_region 20 with fail
      go_region
      have H9 := Lib.hid ((((((((Hh.out.set (k := 1) rfl 0 (.slice a1 G1.length c1)).set (k := 1) rfl 1 (.slice b1 (4 * G1.length) d1)).set (k := 1) rfl 2 (.int .i64 0)).set (k := 2) rfl 0 (.slice a2 G2.length c2)).set (k := 2) rfl 1 (.slice b2 (4 * G2.length) d2)).set (k := 2) rfl 2 (.int .i64 0))).drew)
      have hr1 := Hh.out.row (k := 1) rfl
      have hr2 := (((Hh.out.set (k := 1) rfl 0 (.slice a1 G1.length c1)).set (k := 1) rfl 1 (.slice b1 (4 * G1.length) d1)).set (k := 1) rfl 2 (.int .i64 0)).row (k := 2) rfl
      have r1 := Lib.hid (((HOs.out.1.1.box3 hr1 (.slice a1 G1.length c1) (.slice b1 (4 * G1.length) d1) (.int .i64 0)).box3 hr2 (.slice a2 G2.length c2) (.slice b2 (4 * G2.length) d2) (.int .i64 0)).later (Below.refl _ _).drew (Nat.le_refl _))
      have r2 := Lib.hid (((HOs.out.1.2.box3 hr1 (.slice a1 G1.length c1) (.slice b1 (4 * G1.length) d1) (.int .i64 0)).box3 hr2 (.slice a2 G2.length c2) (.slice b2 (4 * G2.length) d2) (.int .i64 0)).later (Below.refl _ _).drew (Nat.le_refl _))
      have r3 := Lib.hid (((HOs.out.2.1.box3 hr1 (.slice a1 G1.length c1) (.slice b1 (4 * G1.length) d1) (.int .i64 0)).box3 hr2 (.slice a2 G2.length c2) (.slice b2 (4 * G2.length) d2) (.int .i64 0)).later (Below.refl _ _).drew (Nat.le_refl _))
      have r4 := Lib.hid (((HOs.out.2.2.box3 hr1 (.slice a1 G1.length c1) (.slice b1 (4 * G1.length) d1) (.int .i64 0)).box3 hr2 (.slice a2 G2.length c2) (.slice b2 (4 * G2.length) d2) (.int .i64 0)).later (Below.refl _ _).drew (Nat.le_refl _))
      clear k40 k41 k42 k50 k51 k52 f10 f11 f12 f20 f21 f22 k10 k11 k12 k20 k21 k22 n1 n2 n3 n4 n5 n6 n7 n8 n9 hr1 hr2
      have hF0 := H9.out.cell (k := 1) (i := 0) rfl rfl
      have hF1 := H9.out.cell (k := 1) (i := 1) rfl rfl
      have hF2 := H9.out.cell (k := 1) (i := 2) rfl rfl
      have hF3 := H9.out.cell (k := 2) (i := 0) rfl rfl
      have hF4 := H9.out.cell (k := 2) (i := 1) rfl rfl
      have hF5 := H9.out.cell (k := 2) (i := 2) rfl rfl
      go_wp2_with fail
      refine bodyPost_ret (v := .tuple #[.agg #[.slice a1 G1.length c1, .slice b1 (4 * G1.length) d1, .int .i64 0], .agg #[.slice a2 G2.length c2, .slice b2 (4 * G2.length) d2, .int .i64 0], .int .i64 0]) (by simp [results, Tryz.results39, go_sem, hF0, hF1, hF2, hF3, hF4, hF5]) rfl ?_
      have hg := HG12.out
      rw [List.take_of_length_le (Nat.le_refl _)] at hg
      rw [hg.1, hg.2]
      skip
      rw [partS_len, partM_len, partS_len, partM_len]
      exact ⟨a1, b1, c1, d1, a2, b2, c2, d2, rfl, r1.out, r2.out, r3.out, r4.out, H9.out.below⟩
end Go.Proofs.YtmjoijfafachhaaGreatDoor


