/- connect.Sum, the good way: the connected sum along two half-edges. The walks of slices.Clone and diagram.Clone. -/
import Derived.WalkKit
import Derived.WalkSpells
import Derived.WalkLawsBesides
import Derived.Deep.AppendSrc
import Derived.Deep.LoopGhost
import Derived.Deep.QuietTactic
import Derived.Deep.RegionWith
import Derived.Deep.DeepMust
import Derived.Deep.DeepFit
import Derived.BigQuiet
import Derived.Lib.Hide
import Derived.Outline
import Derived.Test.YtmjoijfafachhaaProg
import Derived.Deep.Matrix
import Derived.Deep.DeepCutAuto
import Derived.Deep.RegionLaw
import Derived.Deep.RegionHeld3
import Derived.Lib.AppendZeros
import Derived.Deep.RegionHeld
import Derived.Test.YtmjoijfafachhaaSAa
import Derived.Test.YtmjoijfafachhaaSAc
import Derived.Test.YtmjoijfafachhaaSAd
import Derived.Test.YtmjoijfafachhaaSAe
import Derived.Test.YtmjoijfafachhaaSAf
import Derived.Test.YtmjoijfafachhaaSAg
import Derived.Test.YtmjoijfafachhaaSAh
import Derived.Test.YtmjoijfafachhaaSAi
import Derived.Test.YtmjoijfafachhaaSAj
import Derived.Test.YtmjoijfafachhaaSAk
import Derived.Test.YtmjoijfafachhaaSAl
import Derived.Test.YtmjoijfafachhaaSAs
import Derived.Test.YtmjoijfafachhaaSAt
namespace Go.Proofs.Ytmjoijfafachhaa
open Go Go.RowKit
theorem uni_range {Sa Ma Sb Mb : List Int} {La Lb : Int} (hva : vldB Sa Ma La = true) (hvb : vldB Sb Mb Lb = true) (hn : Sa.length + Sb.length ≤ 64) : ∀ h, h < 4 * (Sa.length + Sb.length) → 0 ≤ nth (uniM Ma Mb) h ∧ nth (uniM Ma Mb) h < 4 * ((Sa.length + Sb.length : Nat) : Int) := fun h hh => by
  have hs := uni_shape hva hvb hn (Int.le_refl 0) (by omega)
  have := hs.range h (by rw [List.length_append]; exact hh)
  rw [List.length_append] at this
  exact this
set_option maxRecDepth 100000 in
set_option maxHeartbeats 2000000 in
theorem sum_yes (Sa Ma Sb Mb : List Int) (La Lb : Int) (aSa aMa aSb aMb : Option Addr) (cSa cMa cSb cMb : Nat) (x y : Nat) (w : World) (hva : vldB Sa Ma La = true) (hvb : vldB Sb Mb Lb = true) (hx : x < 4 * Sa.length) (hy : y < 4 * Sb.length) (hox : outB Sa x = true) (hoy : outB Sb y = true) (hn : Sa.length + Sb.length ≤ 64) (hL : La + Lb ≤ 64) (h1 : IntsAt w aSa Sa) (h2 : IntsAt w aMa Ma) (h3 : IntsAt w aSb Sb) (h4 : IntsAt w aMb Mb) :
    Calls Try.prog 32 #[.agg #[.slice aSa Sa.length cSa, .slice aMa Ma.length cMa, .int .i64 La], .int .i64 (x : Int), .agg #[.slice aSb Sb.length cSb, .slice aMb Mb.length cMb, .int .i64 Lb], .int .i64 (y : Int)] w fun e w' => ∃ a b c d, e = .returned (.tuple #[.agg #[.slice a (Sa.length + Sb.length) c, .slice b (Ma.length + Mb.length) d, .int .i64 (La + Lb)], .int .i64 0]) ∧ Own w' w.heap.size 3 a c (ints (Sa ++ Sb)) ∧ Own w' w.heap.size 3 b d (ints (crossL (uniM Ma Mb) x (Ma.length + y))) ∧ Below w.heap.size w w' := by
  have hsa := vldB_shape hva
  have hsb := vldB_shape hvb
  have hla := hsa.lo
  have hlb := hsb.lo
  have hma := hsa.len
  have hmb := hsb.len
  have HVa : Hid (∀ W', Below w.heap.size w W' → Calls Try.prog 26 #[.agg #[.slice aSa Sa.length cSa, .slice aMa Ma.length cMa, .int .i64 La]] W' fun e w' => e = .returned (.bool true) ∧ Below W'.heap.size W' w') := Lib.hid fun W' h => by
    have g := valid_any Sa Ma La aSa aMa cSa cMa W' (by omega) (by omega) (h1.later h) (h2.later h)
    rw [hva] at g; exact g
  have HVb : Hid (∀ W', Below w.heap.size w W' → Calls Try.prog 26 #[.agg #[.slice aSb Sb.length cSb, .slice aMb Mb.length cMb, .int .i64 Lb]] W' fun e w' => e = .returned (.bool true) ∧ Below W'.heap.size W' w') := Lib.hid fun W' h => by
    have g := valid_any Sb Mb Lb aSb aMb cSb cMb W' (by omega) (by omega) (h3.later h) (h4.later h)
    rw [hvb] at g; exact g
  have HEa : Hid (∀ W', Below w.heap.size w W' → Calls Try.prog 70 #[.agg #[.slice aSa Sa.length cSa, .slice aMa Ma.length cMa, .int .i64 La], .int .i64 (x : Int)] W' fun e w' => e = .returned (.bool true) ∧ Below W'.heap.size W' w') := Lib.hid fun W' h => by
    have g := end_any Sa Ma La aSa aMa cSa cMa (x : Int) W' (by omega) hma (h1.later h)
    rw [placeB_at hx, hox] at g; exact g
  have HEb : Hid (∀ W', Below w.heap.size w W' → Calls Try.prog 70 #[.agg #[.slice aSb Sb.length cSb, .slice aMb Mb.length cMb, .int .i64 Lb], .int .i64 (y : Int)] W' fun e w' => e = .returned (.bool true) ∧ Below W'.heap.size W' w') := Lib.hid fun W' h => by
    have g := end_any Sb Mb Lb aSb aMb cSb cMb (y : Int) W' (by omega) hmb (h3.later h)
    rw [placeB_at hy, hoy] at g; exact g
  have HB : Hid (∀ W', Below w.heap.size w W' → Calls Try.prog 52 #[.agg #[.slice aSa Sa.length cSa, .slice aMa Ma.length cMa, .int .i64 La], .agg #[.slice aSb Sb.length cSb, .slice aMb Mb.length cMb, .int .i64 Lb], .int .i64 (La + Lb)] W' fun e w' => ∃ a b c d, e = .returned (.tuple #[.agg #[.slice a (Sa.length + Sb.length) c, .slice b (Ma.length + Mb.length) d, .int .i64 (La + Lb)], .int .i64 0]) ∧ Own w' W'.heap.size 3 a c (ints (Sa ++ Sb)) ∧ Own w' W'.heap.size 3 b d (ints (uniM Ma Mb)) ∧ (∀ p q, a = some p → b = some q → p.block ≠ q.block) ∧ Below W'.heap.size W' w') := Lib.hid fun W' h =>
    beside_yes Sa Ma Sb Mb La Lb (La + Lb) aSa aMa aSb aMb cSa cMa cSb cMb W' hn hL (by omega) (by omega) (fun k hk => by have := hsb.range k (by omega); omega) (h1.later h) (h2.later h) (h3.later h) (h4.later h)
  have hur := uni_range hva hvb hn
  have hul : (uniM Ma Mb).length = Ma.length + Mb.length := uniM_len _ _
  have HC : Hid (∀ (A : Option Addr) (c B : Nat) (W' : World), Own W' B 3 A c (ints (uniM Ma Mb)) → Calls Try.prog 60 #[.slice A (Ma.length + Mb.length) c, .int .i64 (x : Int), .int .i64 ((Ma.length + y : Nat) : Int)] W' fun e w' => e = .returned (.tuple #[]) ∧ Own w' B 3 A c (ints (crossL (uniM Ma Mb) x (Ma.length + y))) ∧ Turned W' w' A) := Lib.hid fun A c B W' ho => by
    have g := cross_any (uniM Ma Mb) A c B x (Ma.length + y) W' (by omega) (by omega) (by omega) (by have := hur x (by omega); omega) (by have := hur (Ma.length + y) (by omega); omega) ho
    rw [hul] at g; exact g
  have H0 := Lib.hid ((((HH.start w).alloc #[.slice aSa Sa.length cSa, .slice aMa Ma.length cMa, .int .i64 La] 24 rfl rfl).alloc #[.slice aSb Sb.length cSb, .slice aMb Mb.length cMb, .int .i64 Lb] 24 (b := w.heap.size + 1) (by simp) rfl).alloc #[.slice none 0 0, .slice none 0 0, .int .i64 0] 24 (b := w.heap.size + 2) (by simp) rfl)
  have hx255 : (x : Int) ≤ 255 := by omega
  have hy255 : (y : Int) ≤ 255 := by omega
  have hma255 : Ma.length ≤ 256 := by omega
  have e1 : ((x : Int) == -1) = false := by rw [beq_eq_false_iff_ne]; omega
  have e2 : ((y : Int) == -1) = false := by rw [beq_eq_false_iff_ne]; omega
  have hlah := hsa.hi
  have hlbh := hsb.hi
  have hwL : wrap64 (La + Lb) = La + Lb := wrap_mid (by omega) (by omega)
  have HN : Hid ((Ma.length : Int) + (y : Int) = ((Ma.length + y : Nat) : Int)) := Lib.hid (by omega)
  clear hsa hsb hva hvb hx hy hox hoy h1 h2 h3 h4 hur hul hma hmb
  generalize hU : crossL (uniM Ma Mb) x (Ma.length + y) = U at *
  clear hU
  generalize uniM Ma Mb = V at *
  generalize Sa ++ Sb = T at *
  generalize hix : Ma.length + y = ix at *
  clear hix
  generalize Sa.length = na at *
  generalize Sb.length = nb at *
  generalize Ma.length = ma at *
  generalize Mb.length = mb at *
  go_enter Try.func32, Try.ntmps32
  go_wp2_with fail
  refine (HVa.out _ H0.out.below).mono ?_
  rintro e w1 ⟨rfl, hb⟩
  have H1 := Lib.hid (H0.out.call hb)
  clear hb H0 HVa
  have k00 := H1.out.cell (k := 0) (i := 0) rfl rfl
  have k01 := H1.out.cell (k := 0) (i := 1) rfl rfl
  have k02 := H1.out.cell (k := 0) (i := 2) rfl rfl
  have k10 := H1.out.cell (k := 1) (i := 0) rfl rfl
  have k11 := H1.out.cell (k := 1) (i := 1) rfl rfl
  have k12 := H1.out.cell (k := 1) (i := 2) rfl rfl
  go_wp2_with fail
  clear k00 k01 k02 k10 k11 k12
  refine (HVb.out _ H1.out.below).mono ?_
  rintro e w2 ⟨rfl, hb⟩
  have H2 := Lib.hid (H1.out.call hb)
  clear hb H1 HVb
  have k00 := H2.out.cell (k := 0) (i := 0) rfl rfl
  have k01 := H2.out.cell (k := 0) (i := 1) rfl rfl
  have k02 := H2.out.cell (k := 0) (i := 2) rfl rfl
  have k10 := H2.out.cell (k := 1) (i := 0) rfl rfl
  have k11 := H2.out.cell (k := 1) (i := 1) rfl rfl
  have k12 := H2.out.cell (k := 1) (i := 2) rfl rfl
  go_wp2_with fail
  clear k00 k01 k02 k10 k11 k12
  refine (HEa.out _ H2.out.below).mono ?_
  rintro e w3 ⟨rfl, hb⟩
  have H3 := Lib.hid (H2.out.call hb)
  clear hb H2 HEa
  have k00 := H3.out.cell (k := 0) (i := 0) rfl rfl
  have k01 := H3.out.cell (k := 0) (i := 1) rfl rfl
  have k02 := H3.out.cell (k := 0) (i := 2) rfl rfl
  have k10 := H3.out.cell (k := 1) (i := 0) rfl rfl
  have k11 := H3.out.cell (k := 1) (i := 1) rfl rfl
  have k12 := H3.out.cell (k := 1) (i := 2) rfl rfl
  go_wp2_with fail
  clear k00 k01 k02 k10 k11 k12
  refine (HEb.out _ H3.out.below).mono ?_
  rintro e w4 ⟨rfl, hb⟩
  have H4 := Lib.hid (H3.out.call hb)
  clear hb H3 HEb
  have k00 := H4.out.cell (k := 0) (i := 0) rfl rfl
  have k01 := H4.out.cell (k := 0) (i := 1) rfl rfl
  have k02 := H4.out.cell (k := 0) (i := 2) rfl rfl
  have k10 := H4.out.cell (k := 1) (i := 0) rfl rfl
  have k11 := H4.out.cell (k := 1) (i := 1) rfl rfl
  have k12 := H4.out.cell (k := 1) (i := 2) rfl rfl
  go_wp2_with fail
  clear k00 k01 k02 k10 k11 k12
  refine (HB.out _ H4.out.below).mono ?_
  rintro e w5 ⟨a5, b5, c5, d5, rfl, ho1, ho2, hne, hb⟩
  have H5 : Hid (HH w w5 [(w.heap.size, rowO 24 [.slice aSa na cSa, .slice aMa ma cMa, .int .i64 La]), (w.heap.size + 1, rowO 24 [.slice aSb nb cSb, .slice aMb mb cMb, .int .i64 Lb]), (w.heap.size + 2, rowO 24 [.slice none 0 0, .slice none 0 0, .int .i64 0])] [⟨a5, c5, 3, ints T⟩, ⟨b5, d5, 3, ints V⟩]) := Lib.hid (by
    have g := H4.out.call hb
    have hsz := H4.out.below.size
    exact ⟨g.below, g.blk, (fun z hz => by
      simp only [List.mem_cons, List.not_mem_nil, or_false] at hz
      rcases hz with rfl | rfl
      · exact ho1.mono hsz
      · exact ho2.mono hsz), g.nd1, by
      simp only [List.pairwise_cons, List.mem_cons, List.not_mem_nil, or_false, forall_eq, false_imp_iff, implies_true, List.Pairwise.nil, and_true]
      exact hne, fun z hz u hu q hq => by
      have hlt := H4.out.lt hz
      simp only [List.mem_cons, List.not_mem_nil, or_false] at hu
      rcases hu with rfl | rfl
      · have := (ho1.lt hq).1; omega
      · have := (ho2.lt hq).1; omega⟩)
  clear ho1 ho2 hne hb H4 HB
  have H6 := Lib.hid (H5.out.alloc #[.slice a5 (na + nb) c5, .slice b5 (ma + mb) d5, .int .i64 (La + Lb)] 24 rfl rfl)
  have k00 := H6.out.cell (k := 0) (i := 0) rfl rfl
  have k01 := H6.out.cell (k := 0) (i := 1) rfl rfl
  have k02 := H6.out.cell (k := 0) (i := 2) rfl rfl
  have k30 := H6.out.cell (k := 3) (i := 0) rfl rfl
  have k31 := H6.out.cell (k := 3) (i := 1) rfl rfl
  have k32 := H6.out.cell (k := 3) (i := 2) rfl rfl
  go_wp2_with fail
  clear k00 k01 k02 k30 k31 k32
  rw [HN.out]
  refine (HC.out b5 d5 w.heap.size _ (H6.out.sl (k := 1) rfl)).mono ?_
  rintro e w7 ⟨rfl, ho, ht⟩
  have H7 := Lib.hid (H6.out.grow (k := 1) rfl ho ht (fun x hx => .inr ⟨x, hx, rfl⟩))
  clear ho ht H6 H5
  have k30 := H7.out.cell (k := 3) (i := 0) rfl rfl
  have k31 := H7.out.cell (k := 3) (i := 1) rfl rfl
  have k32 := H7.out.cell (k := 3) (i := 2) rfl rfl
  have k20 := H7.out.cell (k := 2) (i := 0) rfl rfl
  have k21 := H7.out.cell (k := 2) (i := 1) rfl rfl
  have k22 := H7.out.cell (k := 2) (i := 2) rfl rfl
  have f0 := H7.out.frozen (k := 2) rfl 0
  have f1 := H7.out.frozen (k := 2) rfl 1
  have f2 := H7.out.frozen (k := 2) rfl 2
  have H9 := ((H7.out.set (k := 2) rfl 0 (.slice a5 (na + nb) c5)).set (k := 2) rfl 1 (.slice b5 (ma + mb) d5)).set (k := 2) rfl 2 (.int .i64 (La + Lb))
  have hF0 := H9.cell (k := 2) (i := 0) rfl rfl
  have hF1 := H9.cell (k := 2) (i := 1) rfl rfl
  have hF2 := H9.cell (k := 2) (i := 2) rfl rfl
  have Hfin := Lib.hid H9
  clear H9
  go_wp2_with fail
  refine bodyPost_ret (v := .tuple #[.agg #[.slice a5 (na + nb) c5, .slice b5 (ma + mb) d5, .int .i64 (La + Lb)], .int .i64 0]) (by simp [results, Try.results32, go_sem, hF0, hF1, hF2]) rfl ?_
  exact ⟨_, _, _, _, rfl, Hfin.out.sl (k := 0) rfl, Hfin.out.sl (k := 1) rfl, Hfin.out.below⟩
end Go.Proofs.Ytmjoijfafachhaa

namespace Go.Proofs.Ytmjoijfafachhaa
open Go Go.RowKit
theorem nilTest (a : Option Addr) (n c : Nat) (W : World) : (binOp .eql 22 (.slice a n c) (.slice none 0 0)).run Try.prog W = .ok (.bool a.isNone) W := Lib.run_eql_slice_nil W 22 3 a n c 0 0 Try.underlying22
section
variable {w : World} {ops : Array Oper} {rest : List Oper} {o : Oper} {a : Act} {Q : Exit → Act → World → Prop}
theorem wpList_append_all (hg : o.guard = none) (s x : Operand) (hop : o.op = .call { callee := .builtin .append, args := #[s, x], argTypes := #[22, 22] })
    (u v r : Value) (w' : World) (hs : a.eval s = u) (hx : a.eval x = v) (hrun : (Builtin.append_ #[22, 22] o.type #[u, v]).run Try.prog w = .ok r w')
    (hK : wpList Try.prog ops Q rest (a.put o.dst r) w') : wpList Try.prog ops Q (o :: rest) a w := by
  refine wpList_plain hg fun K hK' => ?_
  unfold Oper.wp
  simp [execOp, hop, resolve, invoke, builtin, hs, hx, hrun, Result.andThen]
  exact hK' _ _ hK
end
theorem IntsAt.setOther {w : World} {a : Option Addr} {xs : List Int} (h : IntsAt w a xs) (p : Addr) (u : Value) (hp : ∀ x, a = some x → x.block ≠ p.block) : IntsAt (w.setCell p u) a xs := by
  intro i v hi
  obtain ⟨b, off, he, hc⟩ := h i v hi
  refine ⟨b, off, he, ?_⟩
  have hb := hp _ he
  exact (World.cell?_setCell_far w p ⟨b, off + i, none⟩ u fun e => hb e.symm).trans hc
theorem run_append_own (W : World) (z B : Nat) (hB : B ≤ W.heap.size) (xs : List Int) (ad : Addr) (c : Nat) (ty : TypeId) (hl : xs.length ≤ 1000000) (h0 : 0 < xs.length) (hc : ∀ i, i < xs.length → W.cell? (ad.add i) = some (.int .i64 (nth xs i))) :
    ∃ a' c' W', (Builtin.append_ #[22, 22] ty #[.slice (some ⟨z, 0, none⟩) 0 0, .slice (some ad) xs.length c]).run Try.prog W = .ok (.slice a' xs.length c') W' ∧ Own W' B 3 a' c' (ints xs) ∧ Below W.heap.size W W' := by
  obtain ⟨i0, hi0, hz0, hz1, hz2⟩ := info_parts Try.info3
  have hs : Src Try.prog i0.size 22 (.slice (some ad) xs.length c) xs.length (ints xs) W := by
    refine Src.ofSlice W Try.underlying22 ad xs.length c (ints xs) (by rw [ints_length, hz1, Nat.mul_one]) (fun j v hj => ?_) (fun v hv => ?_)
    · have hjl : j < xs.length := by have := (List.getElem?_eq_some_iff.1 hj).1; rwa [ints_length] at this
      rw [ints_get xs j hjl] at hj
      cases hj
      exact hc j hjl
    · simp only [ints, List.mem_map] at hv
      obtain ⟨_, _, rfl⟩ := hv
      rfl
  have hr := run_append_grow_src (P := Try.prog) W 22 22 ty 3 i0 (.int .i64 0) Try.underlying22 hi0 hz0 (some ⟨z, 0, none⟩) 0 0 [] (run_firstCells_some W.drew i0.size 0 ⟨z, 0, none⟩ 0 0 [] (by simp) (by simp)) (.slice (some ad) xs.length c) xs.length (ints xs) hs (by omega) (by omega) (growslice_fits (by omega) (by rw [hz2]; omega))
  rw [Nat.zero_add] at hr
  have hge := grownCap_ge W xs.length 0 3
  refine ⟨_, _, _, hr, ?_, (Below.refl _ _).drew.alloc (Nat.le_refl _) _⟩
  refine .inr ⟨_, 0, _, rfl, by simpa using hB, heap_alloc_new W.drew _, ?_, ?_, ?_⟩
  · rw [ints_length]; simpa using hge
  · simp [size_zeroCells, ints_length, Value.cells]; omega
  · intro j v hj
    have hlt : j < (ints xs).length := (List.getElem?_eq_some_iff.1 hj).1
    rw [Nat.zero_add, Array.getElem?_append_left (by simpa using hlt)]
    simpa using hj
set_option maxRecDepth 100000 in
set_option maxHeartbeats 4000000 in
theorem sclone_own (xs : List Int) (a : Option Addr) (c : Nat) (w : World) (hl : xs.length ≤ 1000000) (h0 : 0 < xs.length) (hx : IntsAt w a xs) :
    Calls Try.prog 73 #[.slice a xs.length c] w fun e w' => ∃ a' c', e = .returned (.slice a' xs.length c') ∧ Own w' w.heap.size 3 a' c' (ints xs) ∧ Below w.heap.size w w' := by
  obtain ⟨b, off, rfl, _⟩ := hx.open h0
  have hnil := nilTest (some ⟨b, off, none⟩) xs.length c
  simp only [Option.isNone_some] at hnil
  have hb : Below w.heap.size w (w.alloc (.cells #[] 3)) := (Below.refl _ _).alloc (Nat.le_refl _) _
  obtain ⟨a', c', W', hrun, hi, hbw⟩ := run_append_own (w.alloc (.cells #[] 3)) w.heap.size w.heap.size (by simp) xs ⟨b, off, none⟩ c 22 hl h0 (fun i hi => by
    have h1 := hx.later hb
    obtain ⟨b', off', he, _, hc⟩ := h1.open (by omega)
    simp only [Option.some.injEq] at he
    rw [he, Addr.add_lit]
    exact hc i hi)
  have Hi := Lib.hid hi
  have Hb := Lib.hid (below_step hb hbw)
  have Hrun := Lib.hid hrun
  clear hx hi hbw hb hrun
  go_enter Try.func73, Try.ntmps73
  go_wp2_with (refine wpList_append_all rfl (.tmp 5) (.tmp 6) rfl _ _ _ _ rfl rfl Hrun.out ?_)
  go_ret
  exact ⟨a', c', rfl, Hi.out, Hb.out⟩
set_option maxRecDepth 100000 in
set_option maxHeartbeats 4000000 in
theorem dclone_own (S M : List Int) (L : Int) (aS aM : Option Addr) (cS cM : Nat) (w : World) (hS0 : 0 < S.length) (hM0 : 0 < M.length) (hSl : S.length ≤ 1000000) (hMl : M.length ≤ 1000000) (hS : IntsAt w aS S) (hM : IntsAt w aM M) :
    Calls Try.prog 59 #[.agg #[.slice aS S.length cS, .slice aM M.length cM, .int .i64 L]] w fun e w' => ∃ a b c d, e = .returned (.agg #[.slice a S.length c, .slice b M.length d, .int .i64 L]) ∧ Own w' w.heap.size 3 a c (ints S) ∧ Own w' w.heap.size 3 b d (ints M) ∧ (∀ p q, a = some p → b = some q → p.block ≠ q.block) ∧ Below w.heap.size w w' := by
  have HS := Lib.hid hS
  have HM := Lib.hid hM
  have HcS : Hid (∀ W', Below w.heap.size w W' → Calls Try.prog 73 #[.slice aS S.length cS] W' fun e w' => ∃ a' c', e = .returned (.slice a' S.length c') ∧ Own w' W'.heap.size 3 a' c' (ints S) ∧ Below W'.heap.size W' w') := Lib.hid fun W' h => sclone_own S aS cS W' hSl hS0 (hS.later h)
  have HcM : Hid (∀ W', Below w.heap.size w W' → Calls Try.prog 73 #[.slice aM M.length cM] W' fun e w' => ∃ a' c', e = .returned (.slice a' M.length c') ∧ Own w' W'.heap.size 3 a' c' (ints M) ∧ Below W'.heap.size W' w') := Lib.hid fun W' h => sclone_own M aM cM W' hMl hM0 (hM.later h)
  have H0 := Lib.hid (((HH.start w).alloc #[.slice aS S.length cS, .slice aM M.length cM, .int .i64 L] 24 rfl rfl).alloc #[.slice none 0 0, .slice none 0 0, .int .i64 0] 24 (b := w.heap.size + 1) (by simp) rfl)
  have HKS : Hid (∀ (W' : World) (l : Kn) (s : List SlO), HH w W' ((w.heap.size, rowO 24 [.slice aS S.length cS, .slice aM M.length cM, .int .i64 L]) :: l) s → W'.cell? ⟨w.heap.size, 0, none⟩ = some (.slice aS S.length cS) ∧ W'.cell? ⟨w.heap.size, 1, none⟩ = some (.slice aM M.length cM) ∧ W'.cell? ⟨w.heap.size, 2, none⟩ = some (.int .i64 L)) := Lib.hid fun W' l s h => ⟨h.cell (k := 0) (i := 0) rfl rfl, h.cell (k := 0) (i := 1) rfl rfl, h.cell (k := 0) (i := 2) rfl rfl⟩
  clear hS hM hS0 hM0 hSl hMl
  go_enter Try.func59, Try.ntmps59
  go_upto_region 1 with fail
  have Hd := Lib.hid H0.out.drew
  clear H0
  generalize ((w.alloc (.cells #[.slice aS S.length cS, .slice aM M.length cM, .int .i64 L] 24)).alloc (.cells #[.slice none 0 0, .slice none 0 0, .int .i64 0] 24)) = W at *
  have Q0 := Lib.hid (HKS.out _ _ _ Hd.out)
  have hq0 := Q0.out
  go_region_held3 (fun W' => W'.cell? ⟨w.heap.size, 0, none⟩ = some (.slice aS S.length cS) ∧ W'.cell? ⟨w.heap.size, 1, none⟩ = some (.slice aM M.length cM) ∧ W'.cell? ⟨w.heap.size, 2, none⟩ = some (.int .i64 L))
    (first
      | with_reducible exact Q0.out
      | with_reducible exact Q1.out
      | with_reducible exact Q2.out
      | with_reducible exact Q9.out)
    (first
      | ((with_reducible refine (HcS.out _ Hd.out.below).mono ?_); rintro e w1 ⟨a1, c1, rfl, ho1, hb1⟩; have H1 := Lib.hid (Hd.out.addSl hb1 ho1); have Q1 := Lib.hid (HKS.out _ _ _ H1.out); clear ho1 hb1)
      | ((with_reducible refine (HcM.out _ Hd.out.below).mono ?_); rintro e w1 ⟨a2, c2, rfl, ho1, hb1⟩; have H1 := Lib.hid (Hd.out.addSl hb1 ho1); have Q1 := Lib.hid (HKS.out _ _ _ H1.out); clear ho1 hb1)
      | ((with_reducible refine (HcM.out _ H1.out.below).mono ?_); rintro e w2 ⟨a2, c2, rfl, ho2, hb2⟩; have H2 := Lib.hid (H1.out.addSl hb2 ho2); have Q2 := Lib.hid (HKS.out _ _ _ H2.out); clear ho2 hb2; have hd0 := H2.out.cell (k := 1) (i := 0) rfl rfl; have hf0 := H2.out.frozen (k := 1) rfl 0; have hd1 := H2.out.cell (k := 1) (i := 1) rfl rfl; have hf1 := H2.out.frozen (k := 1) rfl 1; have hd2 := H2.out.cell (k := 1) (i := 2) rfl rfl; have hf2 := H2.out.frozen (k := 1) rfl 2; have H9 := Lib.hid (((H2.out.set (k := 1) rfl 0 (.slice a1 S.length c1)).set (k := 1) rfl 1 (.slice a2 M.length c2)).set (k := 1) rfl 2 (.int .i64 L)); have Q9 := Lib.hid (HKS.out _ _ _ H9.out))
      | ((with_reducible refine (HcS.out _ H1.out.below).mono ?_); rintro e w2 ⟨a1, c1, rfl, ho2, hb2⟩; have H2 := Lib.hid (H1.out.addSl hb2 ho2); have Q2 := Lib.hid (HKS.out _ _ _ H2.out); clear ho2 hb2; have hd0 := H2.out.cell (k := 1) (i := 0) rfl rfl; have hf0 := H2.out.frozen (k := 1) rfl 0; have hd1 := H2.out.cell (k := 1) (i := 1) rfl rfl; have hf1 := H2.out.frozen (k := 1) rfl 1; have hd2 := H2.out.cell (k := 1) (i := 2) rfl rfl; have hf2 := H2.out.frozen (k := 1) rfl 2; have H9 := Lib.hid (((H2.out.set (k := 1) rfl 0 (.slice a1 S.length c1)).set (k := 1) rfl 1 (.slice a2 M.length c2)).set (k := 1) rfl 2 (.int .i64 L)); have Q9 := Lib.hid (HKS.out _ _ _ H9.out)))
  all_goals
    clear hd0 hd1 hd2 hf0 hf1 hf2
    have hF0 := H9.out.cell (k := 1) (i := 0) rfl rfl
    have hF1 := H9.out.cell (k := 1) (i := 1) rfl rfl
    have hF2 := H9.out.cell (k := 1) (i := 2) rfl rfl
    go_wp2_with fail
    refine bodyPost_ret (v := .agg #[.slice a1 S.length c1, .slice a2 M.length c2, .int .i64 L]) (by simp [results, Try.results59, go_sem, hF0, hF1, hF2]) rfl ?_
    have hp := H9.out.nd2
    simp only [List.nil_append, List.cons_append, List.pairwise_cons, List.mem_cons, List.not_mem_nil, or_false, forall_eq, false_imp_iff, implies_true, List.Pairwise.nil, and_true] at hp
  · exact ⟨_, _, _, _, rfl, H9.out.sl (k := 0) rfl, H9.out.sl (k := 1) rfl, hp, H9.out.below⟩
end Go.Proofs.Ytmjoijfafachhaa

