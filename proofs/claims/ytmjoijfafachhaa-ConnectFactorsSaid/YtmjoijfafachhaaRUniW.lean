/- The reference's Union of two diagrams. -/
import Derived.Test.YtmjoijfafachhaaCopyW
import Derived.Test.YtmjoijfafachhaaSumC
namespace Go.Proofs.Ytmjoijfafachhaa
open Go Go.RowKit
/-- Two slices more, which lie apart. -/
theorem HH.addTwo {w0 w w' : World} {l : Kn} {s : List SlO} (h : HH w0 w l s) (hb : Below w.heap.size w w') {a b : Option Addr} {c d : Nat} {E E' : TypeId} {vs us : List Value} (o1 : Own w' w.heap.size E a c vs) (o2 : Own w' w.heap.size E' b d us) (hne : ∀ p q, a = some p → b = some q → p.block ≠ q.block) :
    HH w0 w' l (s ++ [⟨a, c, E, vs⟩, ⟨b, d, E', us⟩]) := by
  have h1 := h.addSl hb o1
  have h2 := h.addSl hb o2
  have e : s ++ [⟨a, c, E, vs⟩, ⟨b, d, E', us⟩] = (s ++ [⟨a, c, E, vs⟩]) ++ [⟨b, d, E', us⟩] := by simp
  rw [e]
  refine ⟨h1.below, h1.blk, fun x hx => ?_, h1.nd1, ?_, fun x hx y hy => ?_⟩
  · rcases List.mem_append.1 hx with g | g
    · exact h1.own x g
    · exact h2.own x (List.mem_append_right _ g)
  · rw [List.pairwise_append]
    refine ⟨h1.nd2, List.pairwise_singleton _ _, fun x hx y hy => ?_⟩
    obtain rfl := List.mem_singleton.1 hy
    rcases List.mem_append.1 hx with g | g
    · have := h2.nd2
      rw [List.pairwise_append] at this
      exact this.2.2 x g _ (List.mem_singleton_self _)
    · obtain rfl := List.mem_singleton.1 g
      exact hne
  · rcases List.mem_append.1 hy with g | g
    · exact h1.nd3 x hx y g
    · exact h2.nd3 x hx y (List.mem_append_right _ g)
def uniT (A B : List Int) (i : Nat) : List Int := A ++ (B.take i).map fun m => (A.length : Int) + m
theorem uniT_len {A B : List Int} {i : Nat} (h : i ≤ B.length) : (uniT A B i).length = A.length + i := by unfold uniT; rw [List.length_append, List.length_map, List.length_take]; omega
theorem take_snoc {B : List Int} {i : Nat} (h : i < B.length) : B.take (i + 1) = B.take i ++ [nth B i] := by
  rw [List.take_add_one, show B[i]? = some (nth B i) by simp [nth, h]]; rfl
theorem uniT_snoc {A B : List Int} {i : Nat} (h : i < B.length) : uniT A B (i + 1) = uniT A B i ++ [(A.length : Int) + nth B i] := by
  unfold uniT; rw [take_snoc h, List.map_append, ← List.append_assoc]; rfl
theorem uniT_all (A B : List Int) : uniT A B B.length = uniM A B := by unfold uniT uniM; rw [List.take_length]
set_option maxRecDepth 100000 in
set_option maxHeartbeats 1000000 in
theorem runion_yes (Sa Ma : List Int) (La : Int) (aSa aMa : Option Addr) (cSa cMa : Nat) (Sb Mb : List Int) (Lb : Int) (aSb aMb : Option Addr) (cSb cMb : Nat) (w : World) (hva : vldB Sa Ma La = true) (hvb : vldB Sb Mb Lb = true) (hSa : IntsAt w aSa Sa) (hMa : IntsAt w aMa Ma) (hSb : IntsAt w aSb Sb) (hMb : IntsAt w aMb Mb) :
    Calls Try.prog 46 #[.agg #[.slice aSa Sa.length cSa, .slice aMa Ma.length cMa, .int .i64 La], .agg #[.slice aSb Sb.length cSb, .slice aMb Mb.length cMb, .int .i64 Lb]] w fun e w' => ∃ a b c d, e = .returned (.agg #[.slice a (Sa.length + Sb.length) c, .slice b (Ma.length + Mb.length) d, .int .i64 (La + Lb)]) ∧ Own w' w.heap.size 3 a c (ints (Sa ++ Sb)) ∧ Own w' w.heap.size 3 b d (ints (uniM Ma Mb)) ∧ (∀ p q, a = some p → b = some q → p.block ≠ q.block) ∧ Below w.heap.size w w' := by
  have hsa := vldB_shape hva
  have hsb := vldB_shape hvb
  have hla := hsa.lo
  have hlb := hsb.lo
  have hma := hsa.len
  have hmb := hsb.len
  have hlah := hsa.hi
  have hlbh := hsb.hi
  have hfa := hsa.few
  have hfb := hsb.few
  have hMa256 : Ma.length ≤ 256 := by omega
  have hMb256 : Mb.length ≤ 256 := by omega
  have HRb : Hid (∀ i, i < Mb.length → ∃ m : Nat, nth Mb i = (m : Int) ∧ m ≤ 255) := Lib.hid fun i hi => by
    have := hsb.range i (by omega)
    exact ⟨(nth Mb i).toNat, by omega, by omega⟩
  have HCp : Hid (∀ W', Below w.heap.size w W' → Calls Try.prog 64 #[.agg #[.slice aSa Sa.length cSa, .slice aMa Ma.length cMa, .int .i64 La]] W' fun e w' => ∃ a b c d, e = .returned (.agg #[.slice a Sa.length c, .slice b Ma.length d, .int .i64 La]) ∧ Own w' W'.heap.size 3 a c (ints Sa) ∧ Own w' W'.heap.size 3 b d (ints Ma) ∧ (∀ p q, a = some p → b = some q → p.block ≠ q.block) ∧ Below W'.heap.size W' w') := Lib.hid fun W' h => copy_own Sa Ma La aSa aMa cSa cMa W' (by omega) (by omega) (hSa.later h) (hMa.later h)
  have HSb := Lib.hid hSb
  have HMb := Lib.hid hMb
  have hwL : wrap64 (La + Lb) = La + Lb := wrap_mid (by omega) (by omega)
  obtain ⟨i0, hi0, hz0, hz1, hz2⟩ := info_parts Try.info3
  have H0 := Lib.hid ((((HH.start w).alloc #[.slice aSa Sa.length cSa, .slice aMa Ma.length cMa, .int .i64 La] 24 rfl rfl).alloc #[.slice aSb Sb.length cSb, .slice aMb Mb.length cMb, .int .i64 Lb] 24 (b := w.heap.size + 1) (by simp) rfl).alloc #[.slice none 0 0, .slice none 0 0, .int .i64 0] 24 (b := w.heap.size + 2) (by simp) rfl)
  clear hsa hsb hva hvb hSa hMa hSb hMb hma hmb hla hlb
  go_enter Try.func46, Try.ntmps46
  go_wp2_with fail
  refine (HCp.out _ H0.out.below).mono ?_
  rintro e w1 ⟨a5, b5, c5, d5, rfl, ho1, ho2, hne, hb⟩
  have h1 := (H0.out.addTwo hb ho1 ho2 hne).alloc #[.slice a5 Sa.length c5, .slice b5 Ma.length d5, .int .i64 La] 24 rfl rfl
  obtain ⟨q5, hq5⟩ : ∃ q, q = w1.heap.size := ⟨_, rfl⟩
  have h2 : HH w (w1.alloc (Obj.cells #[.slice a5 Sa.length c5, .slice b5 Ma.length d5, .int .i64 La] 24)) [(w.heap.size, rowO 24 [.slice aSa Sa.length cSa, .slice aMa Ma.length cMa, .int .i64 La]), (w.heap.size + 1, rowO 24 [.slice aSb Sb.length cSb, .slice aMb Mb.length cMb, .int .i64 Lb]), (w.heap.size + 2, rowO 24 [.slice none 0 0, .slice none 0 0, .int .i64 0]), (q5, rowO 24 [.slice a5 (Sa.length + 0) c5, .slice b5 (Ma.length + 0) d5, .int .i64 La])] [⟨a5, c5, 3, ints (Sa ++ Sb.take 0)⟩, ⟨b5, d5, 3, ints (uniT Ma Mb 0)⟩] := by
    rw [hq5]
    have e : uniT Ma Mb 0 = Ma := by unfold uniT; simp
    rw [e, List.take_zero, List.append_nil]
    exact h1
  have H1 := Lib.hid h2
  clear h1 h2 hb ho1 ho2 hne H0 HCp
  go_upto_region 3 with fail
  rw [← hq5]
  clear hq5
  go_wp2_with fail
  go_loopg [6] Sb.length (fun g v wr => ∃ (i : Nat) (a : Option Addr) (c : Nat), i ≤ Sb.length ∧ g = Sb.length - i ∧ v = .int .i64 i ∧ HH w wr [(w.heap.size, rowO 24 [.slice aSa Sa.length cSa, .slice aMa Ma.length cMa, .int .i64 La]), (w.heap.size + 1, rowO 24 [.slice aSb Sb.length cSb, .slice aMb Mb.length cMb, .int .i64 Lb]), (w.heap.size + 2, rowO 24 [.slice none 0 0, .slice none 0 0, .int .i64 0]), (q5, rowO 24 [.slice a (Sa.length + i) c, .slice b5 (Ma.length + 0) d5, .int .i64 La])] [⟨a, c, 3, ints (Sa ++ Sb.take i)⟩, ⟨b5, d5, 3, ints (uniT Ma Mb 0)⟩])
  case atStart => exact ⟨0, a5, c5, Nat.zero_le _, rfl, rfl, H1.out⟩
  case round =>
    obtain ⟨i, a, c, hi, rfl, rfl, hh⟩ := hrel
    have Hh := Lib.hid hh
    clear hh H1
    have kb0 := Hh.out.cell (k := 1) (i := 0) rfl rfl
    by_cases hil : i < Sb.length
    · obtain ⟨b3, o3, rfl, _, hcS⟩ := (HSb.out.later Hh.out.below).open (by omega)
      have hcs := hcS i hil
      have HPs : Hid (Sa ++ Sb.take (i + 1) = Sa ++ Sb.take i ++ [nth Sb i]) := Lib.hid (by rw [take_snoc hil, List.append_assoc])
      have Hsl : Hid ((ints (Sa ++ Sb.take i)).length = Sa.length + i) := Lib.hid (by rw [ints_length, List.length_append, List.length_take]; omega)
      have Ha := Lib.hid (Hh.out.call ((Below.refl _ _).alloc (Nat.le_refl _) (.cells #[.int .i64 (nth Sb i)] 3))).drew
      have c1 := Hh.out.cell (k := 3) (i := 0) rfl rfl
      have c3 := Ha.out.cell (k := 3) (i := 0) rfl rfl
      have c4 := Ha.out.cell (k := 1) (i := 0) rfl rfl
      have Hc0 : Hid ((wr.alloc (.cells #[.int .i64 (nth Sb i)] 3)).drew.cell? ⟨wr.heap.size, 0, none⟩ = some (.int .i64 (nth Sb i))) := Lib.hid ((Row.new wr #[.int .i64 (nth Sb i)] 3).cell 0)
      have Hl1 := Lib.hid Ha.out.below.size
      generalize nth Sb i = sv at *
      clear hcS
      go_upto_region 5 with fail
      go_region_law ((refine step_append_one rfl (.tmp 18) (.tmp 24) rfl w.heap.size i0 hi0 hz0 hz1 hz2 a (Sa.length + i) c (ints (Sa ++ Sb.take i)) rfl Hsl.out (Ha.out.sl (k := 0) rfl) ⟨wr.heap.size, 0, none⟩ 1 (.int .i64 sv) rfl Hc0.out rfl (by omega) Hl1.out ?_); intro A3 e3 w5 hO2 hT2 hA2; have H6 := Ha.out.grow (k := 0) rfl hO2 hT2 hA2; have hd := H6.cell (k := 3) (i := 0) rfl rfl; have hf := H6.frozen (k := 3) rfl 0; have H7 := Lib.hid (H6.set (k := 3) rfl 0 (.slice A3 (Sa.length + i + 1) e3)); clear H6 hO2 hT2 hA2)
      all_goals
        clear hd hf c1 c3 c4 Hc0 Hl1 Ha kb0
        go_wp2_with fail
        go_roundg (Sb.length - (i + 1))
        case measure => omega
        case rel =>
          refine ⟨i + 1, A3, e3, by omega, rfl, by go_num, ?_⟩
          rw [HPs.out, ← ints_snoc]
          exact H7.out
    · obtain rfl : i = Sb.length := by omega
      go_wp2_with fail
      clear kb0
      go_loopg [7] Mb.length (fun g v wr => ∃ (j : Nat) (b : Option Addr) (d : Nat), j ≤ Mb.length ∧ g = Mb.length - j ∧ v = .int .i64 j ∧ HH w wr [(w.heap.size, rowO 24 [.slice aSa Sa.length cSa, .slice aMa Ma.length cMa, .int .i64 La]), (w.heap.size + 1, rowO 24 [.slice aSb Sb.length cSb, .slice aMb Mb.length cMb, .int .i64 Lb]), (w.heap.size + 2, rowO 24 [.slice none 0 0, .slice none 0 0, .int .i64 0]), (q5, rowO 24 [.slice a (Sa.length + Sb.length) c, .slice b (Ma.length + j) d, .int .i64 La])] [⟨a, c, 3, ints (Sa ++ Sb.take Sb.length)⟩, ⟨b, d, 3, ints (uniT Ma Mb j)⟩])
      case atStart => exact ⟨0, b5, d5, Nat.zero_le _, rfl, rfl, Hh.out⟩
      case round =>
        obtain ⟨j, b, d, hj, rfl, rfl, hh⟩ := hrel
        replace Hh := Lib.hid hh
        clear hh
        have kb1 := Hh.out.cell (k := 1) (i := 1) rfl rfl
        by_cases hjl : j < Mb.length
        · obtain ⟨b3, o3, rfl, _, hcS⟩ := (HMb.out.later Hh.out.below).open (by omega)
          have hcs := hcS j hjl
          obtain ⟨m, hm, hm2⟩ := HRb.out j hjl
          obtain ⟨V, hV⟩ : ∃ V : Nat, V = Ma.length + m := ⟨_, rfl⟩
          have HPs : Hid (uniT Ma Mb (j + 1) = uniT Ma Mb j ++ [(V : Int)]) := Lib.hid (by rw [uniT_snoc hjl, hm, hV]; push_cast; rfl)
          rw [hm] at hcs
          have w1 : IntKind.i64.wrap ((Ma.length : Int) + (m : Int)) = (V : Int) := by rw [wrapi_mid (by omega) (by omega)]; omega
          have w2 : wrap64 ((Ma.length : Int) + (m : Int)) = (V : Int) := by rw [wrap_mid (by omega) (by omega)]; omega
          have Hsl : Hid ((ints (uniT Ma Mb j)).length = Ma.length + j) := Lib.hid (by rw [ints_length, uniT_len hj])
          have Ha := Lib.hid (Hh.out.call ((Below.refl _ _).alloc (Nat.le_refl _) (.cells #[.int .i64 (V : Int)] 3))).drew
          have c1 := Hh.out.cell (k := 3) (i := 1) rfl rfl
          have c2 := Hh.out.cell (k := 0) (i := 1) rfl rfl
          have c3 := Ha.out.cell (k := 3) (i := 1) rfl rfl
          have c4 := Ha.out.cell (k := 1) (i := 1) rfl rfl
          have c5' := Ha.out.cell (k := 0) (i := 1) rfl rfl
          have Hc0 : Hid ((wr.alloc (.cells #[.int .i64 (V : Int)] 3)).drew.cell? ⟨wr.heap.size, 0, none⟩ = some (.int .i64 (V : Int))) := Lib.hid ((Row.new wr #[.int .i64 (V : Int)] 3).cell 0)
          have Hl1 := Lib.hid Ha.out.below.size
          clear hcS hV hm
          go_upto_region 9 with fail
          go_region_law ((refine step_append_one rfl (.tmp 35) (.tmp 45) rfl w.heap.size i0 hi0 hz0 hz1 hz2 b (Ma.length + j) d (ints (uniT Ma Mb j)) rfl Hsl.out (Ha.out.sl (k := 1) rfl) ⟨wr.heap.size, 0, none⟩ 1 (.int .i64 (V : Int)) rfl Hc0.out rfl (by omega) Hl1.out ?_); intro A3 e3 w5 hO2 hT2 hA2; have H6 := Ha.out.grow (k := 1) rfl hO2 hT2 hA2; have hd := H6.cell (k := 3) (i := 1) rfl rfl; have hf := H6.frozen (k := 3) rfl 1; have H7 := Lib.hid (H6.set (k := 3) rfl 1 (.slice A3 (Ma.length + j + 1) e3)); clear H6 hO2 hT2 hA2)
          all_goals
            clear hd hf c1 c2 c3 c4 c5' Hc0 Hl1 Ha kb1 w1 w2
            go_wp2_with fail
            go_roundg (Mb.length - (j + 1))
            case measure => omega
            case rel =>
              refine ⟨j + 1, A3, e3, by omega, rfl, by go_num, ?_⟩
              rw [HPs.out, ← ints_snoc]
              exact H7.out
        · obtain rfl : j = Mb.length := by omega
          have kb2 := Hh.out.cell (k := 1) (i := 2) rfl rfl
          have g0 := Hh.out.cell (k := 3) (i := 0) rfl rfl
          have g1 := Hh.out.cell (k := 3) (i := 1) rfl rfl
          have g2 := Hh.out.cell (k := 3) (i := 2) rfl rfl
          have gf := Hh.out.frozen (k := 3) rfl 2
          have Hs := Lib.hid (Hh.out.set (k := 3) rfl 2 (.int .i64 (La + Lb)))
          have e0 := Hs.out.cell (k := 3) (i := 0) rfl rfl
          have e1 := Hs.out.cell (k := 3) (i := 1) rfl rfl
          have e2 := Hs.out.cell (k := 3) (i := 2) rfl rfl
          have d0 := Hs.out.cell (k := 2) (i := 0) rfl rfl
          have d1 := Hs.out.cell (k := 2) (i := 1) rfl rfl
          have d2 := Hs.out.cell (k := 2) (i := 2) rfl rfl
          have f0 := Hs.out.frozen (k := 2) rfl 0
          have f1 := Hs.out.frozen (k := 2) rfl 1
          have f2 := Hs.out.frozen (k := 2) rfl 2
          have H9 := ((Hs.out.set (k := 2) rfl 0 (.slice a (Sa.length + Sb.length) c)).set (k := 2) rfl 1 (.slice b (Ma.length + Mb.length) d)).set (k := 2) rfl 2 (.int .i64 (La + Lb))
          have hF0 := H9.cell (k := 2) (i := 0) rfl rfl
          have hF1 := H9.cell (k := 2) (i := 1) rfl rfl
          have hF2 := H9.cell (k := 2) (i := 2) rfl rfl
          have Hfin := Lib.hid H9
          clear H9
          go_wp2_with fail
          refine bodyPost_ret (v := .agg #[.slice a (Sa.length + Sb.length) c, .slice b (Ma.length + Mb.length) d, .int .i64 (La + Lb)]) (by simp [results, Try.results46, go_sem, hF0, hF1, hF2]) rfl ?_
          have s0 := Hfin.out.sl (k := 0) rfl
          have s1 := Hfin.out.sl (k := 1) rfl
          have hnd := Hfin.out.nd2
          rw [List.take_length] at s0
          rw [uniT_all] at s1
          exact ⟨_, _, _, _, rfl, s0, s1, fun p q hp hq => (List.pairwise_cons.1 hnd).1 _ List.mem_cons_self p q hp hq, Hfin.out.below⟩
end Go.Proofs.Ytmjoijfafachhaa
