/- connect.Union, the other ways of connect.Sum, connect.beside beyond the limits. -/
import Derived.Test.YtmjoijfafachhaaSumC
namespace Go.Proofs.Ytmjoijfafachhaa
open Go Go.RowKit
set_option maxRecDepth 100000 in
set_option maxHeartbeats 1000000 in
theorem beside_full_n (Sa Ma : List Int) (La : Int) (aSa aMa : Option Addr) (cSa cMa : Nat) (Sb Mb : List Int) (Lb : Int) (aSb aMb : Option Addr) (cSb cMb : Nat) (K : Int) (w : World) (hla : Sa.length ≤ 1000000000) (_hma : Ma.length ≤ 1000000000) (hlb : Sb.length ≤ 1000000000) (_hmb : Mb.length ≤ 1000000000) (hn : 64 < Sa.length + Sb.length) :
    Calls Try.prog 52 #[.agg #[.slice aSa Sa.length cSa, .slice aMa Ma.length cMa, .int .i64 La], .agg #[.slice aSb Sb.length cSb, .slice aMb Mb.length cMb, .int .i64 Lb], .int .i64 K] w fun e w' => e = .returned (.tuple #[.agg #[.slice none 0 0, .slice none 0 0, .int .i64 0], .int .i64 5]) ∧ Below w.heap.size w w' := by
  clear _hma _hmb
  have d1 : decide (64 < (Sa.length : Int) + (Sb.length : Int)) = true := decide_eq_true (by omega)
  have d2 : decide (64 < wrap64 ((Sa.length : Int) + (Sb.length : Int))) = true := decide_eq_true (by unfold wrap64; omega)
  have H0 := Lib.hid ((((HH.start w).alloc #[.slice aSa Sa.length cSa, .slice aMa Ma.length cMa, .int .i64 La] 24 rfl rfl).alloc #[.slice aSb Sb.length cSb, .slice aMb Mb.length cMb, .int .i64 Lb] 24 (b := w.heap.size + 1) (by simp) rfl).alloc #[.slice none 0 0, .slice none 0 0, .int .i64 0] 24 (b := w.heap.size + 2) (by simp) rfl)
  have k00 := H0.out.cell (k := 0) (i := 0) rfl rfl
  have k01 := H0.out.cell (k := 0) (i := 1) rfl rfl
  have k02 := H0.out.cell (k := 0) (i := 2) rfl rfl
  have k10 := H0.out.cell (k := 1) (i := 0) rfl rfl
  have k11 := H0.out.cell (k := 1) (i := 1) rfl rfl
  have k12 := H0.out.cell (k := 1) (i := 2) rfl rfl
  have k20 := H0.out.cell (k := 2) (i := 0) rfl rfl
  have k21 := H0.out.cell (k := 2) (i := 1) rfl rfl
  have k22 := H0.out.cell (k := 2) (i := 2) rfl rfl
  go_enter Try.func52, Try.ntmps52
  go_wp2_with fail
  refine bodyPost_ret (v := .tuple #[.agg #[.slice none 0 0, .slice none 0 0, .int .i64 0], .int .i64 5]) (by simp [results, Try.results52, go_sem, k20, k21, k22]) rfl ?_
  exact ⟨rfl, H0.out.below⟩
set_option maxRecDepth 100000 in
set_option maxHeartbeats 1000000 in
theorem beside_full_l (Sa Ma : List Int) (La : Int) (aSa aMa : Option Addr) (cSa cMa : Nat) (Sb Mb : List Int) (Lb : Int) (aSb aMb : Option Addr) (cSb cMb : Nat) (K : Int) (w : World) (hla : Sa.length ≤ 1000000000) (_hma : Ma.length ≤ 1000000000) (hlb : Sb.length ≤ 1000000000) (_hmb : Mb.length ≤ 1000000000) (hn : Sa.length + Sb.length ≤ 64) (hK : 64 < K) :
    Calls Try.prog 52 #[.agg #[.slice aSa Sa.length cSa, .slice aMa Ma.length cMa, .int .i64 La], .agg #[.slice aSb Sb.length cSb, .slice aMb Mb.length cMb, .int .i64 Lb], .int .i64 K] w fun e w' => e = .returned (.tuple #[.agg #[.slice none 0 0, .slice none 0 0, .int .i64 0], .int .i64 5]) ∧ Below w.heap.size w w' := by
  clear _hma _hmb
  have d1 : decide (64 < (Sa.length : Int) + (Sb.length : Int)) = false := decide_eq_false (by omega)
  have d3 : decide (64 < K) = true := decide_eq_true hK
  have H0 := Lib.hid ((((HH.start w).alloc #[.slice aSa Sa.length cSa, .slice aMa Ma.length cMa, .int .i64 La] 24 rfl rfl).alloc #[.slice aSb Sb.length cSb, .slice aMb Mb.length cMb, .int .i64 Lb] 24 (b := w.heap.size + 1) (by simp) rfl).alloc #[.slice none 0 0, .slice none 0 0, .int .i64 0] 24 (b := w.heap.size + 2) (by simp) rfl)
  have k00 := H0.out.cell (k := 0) (i := 0) rfl rfl
  have k01 := H0.out.cell (k := 0) (i := 1) rfl rfl
  have k02 := H0.out.cell (k := 0) (i := 2) rfl rfl
  have k10 := H0.out.cell (k := 1) (i := 0) rfl rfl
  have k11 := H0.out.cell (k := 1) (i := 1) rfl rfl
  have k12 := H0.out.cell (k := 1) (i := 2) rfl rfl
  have k20 := H0.out.cell (k := 2) (i := 0) rfl rfl
  have k21 := H0.out.cell (k := 2) (i := 1) rfl rfl
  have k22 := H0.out.cell (k := 2) (i := 2) rfl rfl
  go_enter Try.func52, Try.ntmps52
  go_wp2_with fail
  refine bodyPost_ret (v := .tuple #[.agg #[.slice none 0 0, .slice none 0 0, .int .i64 0], .int .i64 5]) (by simp [results, Try.results52, go_sem, k20, k21, k22]) rfl ?_
  exact ⟨rfl, H0.out.below⟩
set_option maxRecDepth 100000 in
set_option maxHeartbeats 1000000 in
theorem union_arg_a (Sa Ma : List Int) (La : Int) (aSa aMa : Option Addr) (cSa cMa : Nat) (Sb Mb : List Int) (Lb : Int) (aSb aMb : Option Addr) (cSb cMb : Nat) (w : World) (hla : Sa.length ≤ 1000000000) (hma : Ma.length ≤ 1000000000) (_hlb : Sb.length ≤ 1000000000) (_hmb : Mb.length ≤ 1000000000) (hva : vldB Sa Ma La = false) (hSa : IntsAt w aSa Sa) (hMa : IntsAt w aMa Ma) (_hSb : IntsAt w aSb Sb) (_hMb : IntsAt w aMb Mb) :
    Calls Try.prog 16 #[.agg #[.slice aSa Sa.length cSa, .slice aMa Ma.length cMa, .int .i64 La], .agg #[.slice aSb Sb.length cSb, .slice aMb Mb.length cMb, .int .i64 Lb]] w fun e w' => e = .returned (.tuple #[.agg #[.slice none 0 0, .slice none 0 0, .int .i64 0], .int .i64 1]) ∧ Below w.heap.size w w' := by
  have HVa : Hid (∀ W', Below w.heap.size w W' → Calls Try.prog 26 #[.agg #[.slice aSa Sa.length cSa, .slice aMa Ma.length cMa, .int .i64 La]] W' fun e w' => e = .returned (.bool false) ∧ Below W'.heap.size W' w') := Lib.hid fun W' h => by
    have g := valid_any Sa Ma La aSa aMa cSa cMa W' (by omega) (by omega) (hSa.later h) (hMa.later h)
    rw [hva] at g; exact g
  have H0 := Lib.hid ((((HH.start w).alloc #[.slice aSa Sa.length cSa, .slice aMa Ma.length cMa, .int .i64 La] 24 rfl rfl).alloc #[.slice aSb Sb.length cSb, .slice aMb Mb.length cMb, .int .i64 Lb] 24 (b := w.heap.size + 1) (by simp) rfl).alloc #[.slice none 0 0, .slice none 0 0, .int .i64 0] 24 (b := w.heap.size + 2) (by simp) rfl)
  clear hva hSa hMa _hSb _hMb hla hma _hlb _hmb
  generalize Sa.length = na at *
  generalize Sb.length = nb at *
  generalize Ma.length = ma at *
  generalize Mb.length = mb at *
  go_enter Try.func16, Try.ntmps16
  go_wp2_with fail
  refine (HVa.out _ H0.out.below).mono ?_
  rintro e w1 ⟨rfl, hb⟩
  have H1 := Lib.hid (H0.out.call hb)
  clear hb H0 
  have k00 := H1.out.cell (k := 0) (i := 0) rfl rfl
  have k01 := H1.out.cell (k := 0) (i := 1) rfl rfl
  have k02 := H1.out.cell (k := 0) (i := 2) rfl rfl
  have k10 := H1.out.cell (k := 1) (i := 0) rfl rfl
  have k11 := H1.out.cell (k := 1) (i := 1) rfl rfl
  have k12 := H1.out.cell (k := 1) (i := 2) rfl rfl
  have k20 := H1.out.cell (k := 2) (i := 0) rfl rfl
  have k21 := H1.out.cell (k := 2) (i := 1) rfl rfl
  have k22 := H1.out.cell (k := 2) (i := 2) rfl rfl
  have f20 := H1.out.frozen (k := 2) rfl 0
  have f21 := H1.out.frozen (k := 2) rfl 1
  have f22 := H1.out.frozen (k := 2) rfl 2
  have H9 := (((H1.out.set (k := 2) rfl 0 (.slice none 0 0)).set (k := 2) rfl 1 (.slice none 0 0)).set (k := 2) rfl 2 (.int .i64 0))
  have hF20 := H9.cell (k := 2) (i := 0) rfl rfl
  have hF21 := H9.cell (k := 2) (i := 1) rfl rfl
  have hF22 := H9.cell (k := 2) (i := 2) rfl rfl
  have Hfin := Lib.hid H9
  clear H9
  go_wp2_with fail
  refine bodyPost_ret (v := .tuple #[.agg #[.slice none 0 0, .slice none 0 0, .int .i64 0], .int .i64 1]) (by simp [results, Try.results16, go_sem, hF20, hF21, hF22]) rfl ?_
  exact ⟨rfl, Hfin.out.below⟩
set_option maxRecDepth 100000 in
set_option maxHeartbeats 1000000 in
theorem union_arg_b (Sa Ma : List Int) (La : Int) (aSa aMa : Option Addr) (cSa cMa : Nat) (Sb Mb : List Int) (Lb : Int) (aSb aMb : Option Addr) (cSb cMb : Nat) (w : World) (hla : Sa.length ≤ 1000000000) (hma : Ma.length ≤ 1000000000) (hlb : Sb.length ≤ 1000000000) (hmb : Mb.length ≤ 1000000000) (hva : vldB Sa Ma La = true) (hvb : vldB Sb Mb Lb = false) (hSa : IntsAt w aSa Sa) (hMa : IntsAt w aMa Ma) (hSb : IntsAt w aSb Sb) (hMb : IntsAt w aMb Mb) :
    Calls Try.prog 16 #[.agg #[.slice aSa Sa.length cSa, .slice aMa Ma.length cMa, .int .i64 La], .agg #[.slice aSb Sb.length cSb, .slice aMb Mb.length cMb, .int .i64 Lb]] w fun e w' => e = .returned (.tuple #[.agg #[.slice none 0 0, .slice none 0 0, .int .i64 0], .int .i64 1]) ∧ Below w.heap.size w w' := by
  have HVa : Hid (∀ W', Below w.heap.size w W' → Calls Try.prog 26 #[.agg #[.slice aSa Sa.length cSa, .slice aMa Ma.length cMa, .int .i64 La]] W' fun e w' => e = .returned (.bool true) ∧ Below W'.heap.size W' w') := Lib.hid fun W' h => by
    have g := valid_any Sa Ma La aSa aMa cSa cMa W' (by omega) (by omega) (hSa.later h) (hMa.later h)
    rw [hva] at g; exact g
  have HVb : Hid (∀ W', Below w.heap.size w W' → Calls Try.prog 26 #[.agg #[.slice aSb Sb.length cSb, .slice aMb Mb.length cMb, .int .i64 Lb]] W' fun e w' => e = .returned (.bool false) ∧ Below W'.heap.size W' w') := Lib.hid fun W' h => by
    have g := valid_any Sb Mb Lb aSb aMb cSb cMb W' (by omega) (by omega) (hSb.later h) (hMb.later h)
    rw [hvb] at g; exact g
  have H0 := Lib.hid ((((HH.start w).alloc #[.slice aSa Sa.length cSa, .slice aMa Ma.length cMa, .int .i64 La] 24 rfl rfl).alloc #[.slice aSb Sb.length cSb, .slice aMb Mb.length cMb, .int .i64 Lb] 24 (b := w.heap.size + 1) (by simp) rfl).alloc #[.slice none 0 0, .slice none 0 0, .int .i64 0] 24 (b := w.heap.size + 2) (by simp) rfl)
  clear hva hSa hMa hSb hMb hla hma hlb hmb hvb
  generalize Sa.length = na at *
  generalize Sb.length = nb at *
  generalize Ma.length = ma at *
  generalize Mb.length = mb at *
  go_enter Try.func16, Try.ntmps16
  go_wp2_with fail
  refine (HVa.out _ H0.out.below).mono ?_
  rintro e w1 ⟨rfl, hb⟩
  have H1 := Lib.hid (H0.out.call hb)
  clear hb H0 
  have k00 := H1.out.cell (k := 0) (i := 0) rfl rfl
  have k01 := H1.out.cell (k := 0) (i := 1) rfl rfl
  have k02 := H1.out.cell (k := 0) (i := 2) rfl rfl
  have k10 := H1.out.cell (k := 1) (i := 0) rfl rfl
  have k11 := H1.out.cell (k := 1) (i := 1) rfl rfl
  have k12 := H1.out.cell (k := 1) (i := 2) rfl rfl
  have k20 := H1.out.cell (k := 2) (i := 0) rfl rfl
  have k21 := H1.out.cell (k := 2) (i := 1) rfl rfl
  have k22 := H1.out.cell (k := 2) (i := 2) rfl rfl
  go_wp2_with fail
  clear k00 k01 k02 k10 k11 k12 k20 k21 k22
  refine (HVb.out _ H1.out.below).mono ?_
  rintro e w2 ⟨rfl, hb⟩
  have H2 := Lib.hid (H1.out.call hb)
  clear hb H1 
  have k00 := H2.out.cell (k := 0) (i := 0) rfl rfl
  have k01 := H2.out.cell (k := 0) (i := 1) rfl rfl
  have k02 := H2.out.cell (k := 0) (i := 2) rfl rfl
  have k10 := H2.out.cell (k := 1) (i := 0) rfl rfl
  have k11 := H2.out.cell (k := 1) (i := 1) rfl rfl
  have k12 := H2.out.cell (k := 1) (i := 2) rfl rfl
  have k20 := H2.out.cell (k := 2) (i := 0) rfl rfl
  have k21 := H2.out.cell (k := 2) (i := 1) rfl rfl
  have k22 := H2.out.cell (k := 2) (i := 2) rfl rfl
  have f20 := H2.out.frozen (k := 2) rfl 0
  have f21 := H2.out.frozen (k := 2) rfl 1
  have f22 := H2.out.frozen (k := 2) rfl 2
  have H9 := (((H2.out.set (k := 2) rfl 0 (.slice none 0 0)).set (k := 2) rfl 1 (.slice none 0 0)).set (k := 2) rfl 2 (.int .i64 0))
  have hF20 := H9.cell (k := 2) (i := 0) rfl rfl
  have hF21 := H9.cell (k := 2) (i := 1) rfl rfl
  have hF22 := H9.cell (k := 2) (i := 2) rfl rfl
  have Hfin := Lib.hid H9
  clear H9
  go_wp2_with fail
  refine bodyPost_ret (v := .tuple #[.agg #[.slice none 0 0, .slice none 0 0, .int .i64 0], .int .i64 1]) (by simp [results, Try.results16, go_sem, hF20, hF21, hF22]) rfl ?_
  exact ⟨rfl, Hfin.out.below⟩
set_option maxRecDepth 100000 in
set_option maxHeartbeats 1000000 in
theorem sum_arg_a (Sa Ma : List Int) (La : Int) (aSa aMa : Option Addr) (cSa cMa : Nat) (Sb Mb : List Int) (Lb : Int) (aSb aMb : Option Addr) (cSb cMb : Nat) (x y : Int) (w : World) (hla : Sa.length ≤ 1000000000) (hma : Ma.length ≤ 1000000000) (_hlb : Sb.length ≤ 1000000000) (_hmb : Mb.length ≤ 1000000000) (hva : vldB Sa Ma La = false) (hSa : IntsAt w aSa Sa) (hMa : IntsAt w aMa Ma) (_hSb : IntsAt w aSb Sb) (_hMb : IntsAt w aMb Mb) :
    Calls Try.prog 32 #[.agg #[.slice aSa Sa.length cSa, .slice aMa Ma.length cMa, .int .i64 La], .int .i64 x, .agg #[.slice aSb Sb.length cSb, .slice aMb Mb.length cMb, .int .i64 Lb], .int .i64 y] w fun e w' => e = .returned (.tuple #[.agg #[.slice none 0 0, .slice none 0 0, .int .i64 0], .int .i64 1]) ∧ Below w.heap.size w w' := by
  have HVa : Hid (∀ W', Below w.heap.size w W' → Calls Try.prog 26 #[.agg #[.slice aSa Sa.length cSa, .slice aMa Ma.length cMa, .int .i64 La]] W' fun e w' => e = .returned (.bool false) ∧ Below W'.heap.size W' w') := Lib.hid fun W' h => by
    have g := valid_any Sa Ma La aSa aMa cSa cMa W' (by omega) (by omega) (hSa.later h) (hMa.later h)
    rw [hva] at g; exact g
  have H0 := Lib.hid ((((HH.start w).alloc #[.slice aSa Sa.length cSa, .slice aMa Ma.length cMa, .int .i64 La] 24 rfl rfl).alloc #[.slice aSb Sb.length cSb, .slice aMb Mb.length cMb, .int .i64 Lb] 24 (b := w.heap.size + 1) (by simp) rfl).alloc #[.slice none 0 0, .slice none 0 0, .int .i64 0] 24 (b := w.heap.size + 2) (by simp) rfl)
  clear hva hSa hMa _hSb _hMb hla hma _hlb _hmb
  generalize Sa.length = na at *
  generalize Sb.length = nb at *
  generalize Ma.length = ma at *
  generalize Mb.length = mb at *
  go_enter Try.func32, Try.ntmps32
  go_wp2_with fail
  refine (HVa.out _ H0.out.below).mono ?_
  rintro e w1 ⟨rfl, hb⟩
  have H1 := Lib.hid (H0.out.call hb)
  clear hb H0 
  have k00 := H1.out.cell (k := 0) (i := 0) rfl rfl
  have k01 := H1.out.cell (k := 0) (i := 1) rfl rfl
  have k02 := H1.out.cell (k := 0) (i := 2) rfl rfl
  have k10 := H1.out.cell (k := 1) (i := 0) rfl rfl
  have k11 := H1.out.cell (k := 1) (i := 1) rfl rfl
  have k12 := H1.out.cell (k := 1) (i := 2) rfl rfl
  have k20 := H1.out.cell (k := 2) (i := 0) rfl rfl
  have k21 := H1.out.cell (k := 2) (i := 1) rfl rfl
  have k22 := H1.out.cell (k := 2) (i := 2) rfl rfl
  have f20 := H1.out.frozen (k := 2) rfl 0
  have f21 := H1.out.frozen (k := 2) rfl 1
  have f22 := H1.out.frozen (k := 2) rfl 2
  have H9 := (((H1.out.set (k := 2) rfl 0 (.slice none 0 0)).set (k := 2) rfl 1 (.slice none 0 0)).set (k := 2) rfl 2 (.int .i64 0))
  have hF20 := H9.cell (k := 2) (i := 0) rfl rfl
  have hF21 := H9.cell (k := 2) (i := 1) rfl rfl
  have hF22 := H9.cell (k := 2) (i := 2) rfl rfl
  have Hfin := Lib.hid H9
  clear H9
  go_wp2_with fail
  refine bodyPost_ret (v := .tuple #[.agg #[.slice none 0 0, .slice none 0 0, .int .i64 0], .int .i64 1]) (by simp [results, Try.results32, go_sem, hF20, hF21, hF22]) rfl ?_
  exact ⟨rfl, Hfin.out.below⟩
set_option maxRecDepth 100000 in
set_option maxHeartbeats 1000000 in
theorem sum_arg_b (Sa Ma : List Int) (La : Int) (aSa aMa : Option Addr) (cSa cMa : Nat) (Sb Mb : List Int) (Lb : Int) (aSb aMb : Option Addr) (cSb cMb : Nat) (x y : Int) (w : World) (hla : Sa.length ≤ 1000000000) (hma : Ma.length ≤ 1000000000) (hlb : Sb.length ≤ 1000000000) (hmb : Mb.length ≤ 1000000000) (hva : vldB Sa Ma La = true) (hvb : vldB Sb Mb Lb = false) (hSa : IntsAt w aSa Sa) (hMa : IntsAt w aMa Ma) (hSb : IntsAt w aSb Sb) (hMb : IntsAt w aMb Mb) :
    Calls Try.prog 32 #[.agg #[.slice aSa Sa.length cSa, .slice aMa Ma.length cMa, .int .i64 La], .int .i64 x, .agg #[.slice aSb Sb.length cSb, .slice aMb Mb.length cMb, .int .i64 Lb], .int .i64 y] w fun e w' => e = .returned (.tuple #[.agg #[.slice none 0 0, .slice none 0 0, .int .i64 0], .int .i64 1]) ∧ Below w.heap.size w w' := by
  have HVa : Hid (∀ W', Below w.heap.size w W' → Calls Try.prog 26 #[.agg #[.slice aSa Sa.length cSa, .slice aMa Ma.length cMa, .int .i64 La]] W' fun e w' => e = .returned (.bool true) ∧ Below W'.heap.size W' w') := Lib.hid fun W' h => by
    have g := valid_any Sa Ma La aSa aMa cSa cMa W' (by omega) (by omega) (hSa.later h) (hMa.later h)
    rw [hva] at g; exact g
  have HVb : Hid (∀ W', Below w.heap.size w W' → Calls Try.prog 26 #[.agg #[.slice aSb Sb.length cSb, .slice aMb Mb.length cMb, .int .i64 Lb]] W' fun e w' => e = .returned (.bool false) ∧ Below W'.heap.size W' w') := Lib.hid fun W' h => by
    have g := valid_any Sb Mb Lb aSb aMb cSb cMb W' (by omega) (by omega) (hSb.later h) (hMb.later h)
    rw [hvb] at g; exact g
  have H0 := Lib.hid ((((HH.start w).alloc #[.slice aSa Sa.length cSa, .slice aMa Ma.length cMa, .int .i64 La] 24 rfl rfl).alloc #[.slice aSb Sb.length cSb, .slice aMb Mb.length cMb, .int .i64 Lb] 24 (b := w.heap.size + 1) (by simp) rfl).alloc #[.slice none 0 0, .slice none 0 0, .int .i64 0] 24 (b := w.heap.size + 2) (by simp) rfl)
  clear hva hSa hMa hSb hMb hla hma hlb hmb hvb
  generalize Sa.length = na at *
  generalize Sb.length = nb at *
  generalize Ma.length = ma at *
  generalize Mb.length = mb at *
  go_enter Try.func32, Try.ntmps32
  go_wp2_with fail
  refine (HVa.out _ H0.out.below).mono ?_
  rintro e w1 ⟨rfl, hb⟩
  have H1 := Lib.hid (H0.out.call hb)
  clear hb H0 
  have k00 := H1.out.cell (k := 0) (i := 0) rfl rfl
  have k01 := H1.out.cell (k := 0) (i := 1) rfl rfl
  have k02 := H1.out.cell (k := 0) (i := 2) rfl rfl
  have k10 := H1.out.cell (k := 1) (i := 0) rfl rfl
  have k11 := H1.out.cell (k := 1) (i := 1) rfl rfl
  have k12 := H1.out.cell (k := 1) (i := 2) rfl rfl
  have k20 := H1.out.cell (k := 2) (i := 0) rfl rfl
  have k21 := H1.out.cell (k := 2) (i := 1) rfl rfl
  have k22 := H1.out.cell (k := 2) (i := 2) rfl rfl
  go_wp2_with fail
  clear k00 k01 k02 k10 k11 k12 k20 k21 k22
  refine (HVb.out _ H1.out.below).mono ?_
  rintro e w2 ⟨rfl, hb⟩
  have H2 := Lib.hid (H1.out.call hb)
  clear hb H1 
  have k00 := H2.out.cell (k := 0) (i := 0) rfl rfl
  have k01 := H2.out.cell (k := 0) (i := 1) rfl rfl
  have k02 := H2.out.cell (k := 0) (i := 2) rfl rfl
  have k10 := H2.out.cell (k := 1) (i := 0) rfl rfl
  have k11 := H2.out.cell (k := 1) (i := 1) rfl rfl
  have k12 := H2.out.cell (k := 1) (i := 2) rfl rfl
  have k20 := H2.out.cell (k := 2) (i := 0) rfl rfl
  have k21 := H2.out.cell (k := 2) (i := 1) rfl rfl
  have k22 := H2.out.cell (k := 2) (i := 2) rfl rfl
  have f20 := H2.out.frozen (k := 2) rfl 0
  have f21 := H2.out.frozen (k := 2) rfl 1
  have f22 := H2.out.frozen (k := 2) rfl 2
  have H9 := (((H2.out.set (k := 2) rfl 0 (.slice none 0 0)).set (k := 2) rfl 1 (.slice none 0 0)).set (k := 2) rfl 2 (.int .i64 0))
  have hF20 := H9.cell (k := 2) (i := 0) rfl rfl
  have hF21 := H9.cell (k := 2) (i := 1) rfl rfl
  have hF22 := H9.cell (k := 2) (i := 2) rfl rfl
  have Hfin := Lib.hid H9
  clear H9
  go_wp2_with fail
  refine bodyPost_ret (v := .tuple #[.agg #[.slice none 0 0, .slice none 0 0, .int .i64 0], .int .i64 1]) (by simp [results, Try.results32, go_sem, hF20, hF21, hF22]) rfl ?_
  exact ⟨rfl, Hfin.out.below⟩
set_option maxRecDepth 100000 in
set_option maxHeartbeats 1000000 in
theorem union_yes (Sa Ma : List Int) (La : Int) (aSa aMa : Option Addr) (cSa cMa : Nat) (Sb Mb : List Int) (Lb : Int) (aSb aMb : Option Addr) (cSb cMb : Nat) (w : World) (hva : vldB Sa Ma La = true) (hvb : vldB Sb Mb Lb = true) (hn : Sa.length + Sb.length ≤ 64) (hL : La + Lb ≤ 64) (hSa : IntsAt w aSa Sa) (hMa : IntsAt w aMa Ma) (hSb : IntsAt w aSb Sb) (hMb : IntsAt w aMb Mb) :
    Calls Try.prog 16 #[.agg #[.slice aSa Sa.length cSa, .slice aMa Ma.length cMa, .int .i64 La], .agg #[.slice aSb Sb.length cSb, .slice aMb Mb.length cMb, .int .i64 Lb]] w fun e w' => ∃ a b c d, e = .returned (.tuple #[.agg #[.slice a (Sa.length + Sb.length) c, .slice b (Ma.length + Mb.length) d, .int .i64 (La + Lb)], .int .i64 0]) ∧ Own w' w.heap.size 3 a c (ints (Sa ++ Sb)) ∧ Own w' w.heap.size 3 b d (ints (uniM Ma Mb)) ∧ Below w.heap.size w w' := by
  have hsa := vldB_shape hva
  have hsb := vldB_shape hvb
  have hla := hsa.lo
  have hlb := hsb.lo
  have hma := hsa.len
  have hmb := hsb.len
  have hlah := hsa.hi
  have hlbh := hsb.hi
  have hfa := hsa.few
  have hfb := hsb.few
  have HVa : Hid (∀ W', Below w.heap.size w W' → Calls Try.prog 26 #[.agg #[.slice aSa Sa.length cSa, .slice aMa Ma.length cMa, .int .i64 La]] W' fun e w' => e = .returned (.bool true) ∧ Below W'.heap.size W' w') := Lib.hid fun W' h => by
    have g := valid_any Sa Ma La aSa aMa cSa cMa W' (by omega) (by omega) (hSa.later h) (hMa.later h)
    rw [hva] at g; exact g
  have HVb : Hid (∀ W', Below w.heap.size w W' → Calls Try.prog 26 #[.agg #[.slice aSb Sb.length cSb, .slice aMb Mb.length cMb, .int .i64 Lb]] W' fun e w' => e = .returned (.bool true) ∧ Below W'.heap.size W' w') := Lib.hid fun W' h => by
    have g := valid_any Sb Mb Lb aSb aMb cSb cMb W' (by omega) (by omega) (hSb.later h) (hMb.later h)
    rw [hvb] at g; exact g
  have HB : Hid (∀ W', Below w.heap.size w W' → Calls Try.prog 52 #[.agg #[.slice aSa Sa.length cSa, .slice aMa Ma.length cMa, .int .i64 La], .agg #[.slice aSb Sb.length cSb, .slice aMb Mb.length cMb, .int .i64 Lb], .int .i64 (La + Lb)] W' fun e w' => ∃ a b c d, e = .returned (.tuple #[.agg #[.slice a (Sa.length + Sb.length) c, .slice b (Ma.length + Mb.length) d, .int .i64 (La + Lb)], .int .i64 0]) ∧ Own w' W'.heap.size 3 a c (ints (Sa ++ Sb)) ∧ Own w' W'.heap.size 3 b d (ints (uniM Ma Mb)) ∧ Below W'.heap.size W' w') := Lib.hid fun W' h =>
    (beside_yes Sa Ma Sb Mb La Lb (La + Lb) aSa aMa aSb aMb cSa cMa cSb cMb W' hn (by omega) (by omega) (by omega) (fun k hk => by have := hsb.range k (by omega); omega) (hSa.later h) (hMa.later h) (hSb.later h) (hMb.later h)).mono fun e w' ⟨a, b, c, d, h1, h2, h3, _, h5⟩ => ⟨a, b, c, d, h1, h2, h3, h5⟩
  have hwL : wrap64 (La + Lb) = La + Lb := wrap_mid (by omega) (by omega)
  have H0 := Lib.hid ((((HH.start w).alloc #[.slice aSa Sa.length cSa, .slice aMa Ma.length cMa, .int .i64 La] 24 rfl rfl).alloc #[.slice aSb Sb.length cSb, .slice aMb Mb.length cMb, .int .i64 Lb] 24 (b := w.heap.size + 1) (by simp) rfl).alloc #[.slice none 0 0, .slice none 0 0, .int .i64 0] 24 (b := w.heap.size + 2) (by simp) rfl)
  clear hsa hsb hva hvb hSa hMa hSb hMb hma hmb hfa hfb
  generalize uniM Ma Mb = V at *
  generalize Sa ++ Sb = T at *
  generalize Sa.length = na at *
  generalize Sb.length = nb at *
  generalize Ma.length = ma at *
  generalize Mb.length = mb at *
  go_enter Try.func16, Try.ntmps16
  go_wp2_with fail
  refine (HVa.out _ H0.out.below).mono ?_
  rintro e w1 ⟨rfl, hb⟩
  have H1 := Lib.hid (H0.out.call hb)
  clear hb H0 HVa
  have k00 := H1.out.cell (k := 0) (i := 0) rfl rfl
  have k01 := H1.out.cell (k := 0) (i := 1) rfl rfl
  have k02 := H1.out.cell (k := 0) (i := 2) rfl rfl
  have k10 := H1.out.cell (k := 1) (i := 0) rfl rfl
  have k11 := H1.out.cell (k := 1) (i := 1) rfl rfl
  have k12 := H1.out.cell (k := 1) (i := 2) rfl rfl
  have k20 := H1.out.cell (k := 2) (i := 0) rfl rfl
  have k21 := H1.out.cell (k := 2) (i := 1) rfl rfl
  have k22 := H1.out.cell (k := 2) (i := 2) rfl rfl
  go_wp2_with fail
  clear k00 k01 k02 k10 k11 k12 k20 k21 k22
  refine (HVb.out _ H1.out.below).mono ?_
  rintro e w2 ⟨rfl, hb⟩
  have H2 := Lib.hid (H1.out.call hb)
  clear hb H1 HVb
  have k00 := H2.out.cell (k := 0) (i := 0) rfl rfl
  have k01 := H2.out.cell (k := 0) (i := 1) rfl rfl
  have k02 := H2.out.cell (k := 0) (i := 2) rfl rfl
  have k10 := H2.out.cell (k := 1) (i := 0) rfl rfl
  have k11 := H2.out.cell (k := 1) (i := 1) rfl rfl
  have k12 := H2.out.cell (k := 1) (i := 2) rfl rfl
  have k20 := H2.out.cell (k := 2) (i := 0) rfl rfl
  have k21 := H2.out.cell (k := 2) (i := 1) rfl rfl
  have k22 := H2.out.cell (k := 2) (i := 2) rfl rfl
  go_wp2_with fail
  clear k00 k01 k02 k10 k11 k12 k20 k21 k22
  refine (HB.out _ H2.out.below).mono ?_
  rintro e w3 ⟨a5, b5, c5, d5, rfl, ho1, ho2, hb⟩
  have H3 := Lib.hid (H2.out.call hb)
  have HO1 := Lib.hid (ho1.mono H2.out.below.size)
  have HO2 := Lib.hid (ho2.mono H2.out.below.size)
  clear ho1 ho2
  clear hb H2 
  have k00 := H3.out.cell (k := 0) (i := 0) rfl rfl
  have k01 := H3.out.cell (k := 0) (i := 1) rfl rfl
  have k02 := H3.out.cell (k := 0) (i := 2) rfl rfl
  have k10 := H3.out.cell (k := 1) (i := 0) rfl rfl
  have k11 := H3.out.cell (k := 1) (i := 1) rfl rfl
  have k12 := H3.out.cell (k := 1) (i := 2) rfl rfl
  have k20 := H3.out.cell (k := 2) (i := 0) rfl rfl
  have k21 := H3.out.cell (k := 2) (i := 1) rfl rfl
  have k22 := H3.out.cell (k := 2) (i := 2) rfl rfl
  have f20 := H3.out.frozen (k := 2) rfl 0
  have f21 := H3.out.frozen (k := 2) rfl 1
  have f22 := H3.out.frozen (k := 2) rfl 2
  have H9 := (((H3.out.set (k := 2) rfl 0 (.slice a5 (na + nb) c5)).set (k := 2) rfl 1 (.slice b5 (ma + mb) d5)).set (k := 2) rfl 2 (.int .i64 (La + Lb)))
  have hF20 := H9.cell (k := 2) (i := 0) rfl rfl
  have hF21 := H9.cell (k := 2) (i := 1) rfl rfl
  have hF22 := H9.cell (k := 2) (i := 2) rfl rfl
  have Hfin := Lib.hid H9
  clear H9
  go_wp2_with fail
  refine bodyPost_ret (v := .tuple #[.agg #[.slice a5 (na + nb) c5, .slice b5 (ma + mb) d5, .int .i64 (La + Lb)], .int .i64 0]) (by simp [results, Try.results16, go_sem, hF20, hF21, hF22]) rfl ?_
  have q1 := ((HO1.out.setOther (H3.out.row (k := 2) rfl) (by decide) 0 (.slice a5 (na + nb) c5)).setOther ((H3.out.set (k := 2) rfl 0 (.slice a5 (na + nb) c5)).row (k := 2) rfl) (by decide) 1 (.slice b5 (ma + mb) d5)).setOther (((H3.out.set (k := 2) rfl 0 (.slice a5 (na + nb) c5)).set (k := 2) rfl 1 (.slice b5 (ma + mb) d5)).row (k := 2) rfl) (by decide) 2 (.int .i64 (La + Lb))
  have q2 := ((HO2.out.setOther (H3.out.row (k := 2) rfl) (by decide) 0 (.slice a5 (na + nb) c5)).setOther ((H3.out.set (k := 2) rfl 0 (.slice a5 (na + nb) c5)).row (k := 2) rfl) (by decide) 1 (.slice b5 (ma + mb) d5)).setOther (((H3.out.set (k := 2) rfl 0 (.slice a5 (na + nb) c5)).set (k := 2) rfl 1 (.slice b5 (ma + mb) d5)).row (k := 2) rfl) (by decide) 2 (.int .i64 (La + Lb))
  exact ⟨_, _, _, _, rfl, q1, q2, Hfin.out.below⟩
set_option maxRecDepth 100000 in
set_option maxHeartbeats 1000000 in
theorem union_full_n (Sa Ma : List Int) (La : Int) (aSa aMa : Option Addr) (cSa cMa : Nat) (Sb Mb : List Int) (Lb : Int) (aSb aMb : Option Addr) (cSb cMb : Nat) (w : World) (hva : vldB Sa Ma La = true) (hvb : vldB Sb Mb Lb = true) (hn : 64 < Sa.length + Sb.length) (hSa : IntsAt w aSa Sa) (hMa : IntsAt w aMa Ma) (hSb : IntsAt w aSb Sb) (hMb : IntsAt w aMb Mb) :
    Calls Try.prog 16 #[.agg #[.slice aSa Sa.length cSa, .slice aMa Ma.length cMa, .int .i64 La], .agg #[.slice aSb Sb.length cSb, .slice aMb Mb.length cMb, .int .i64 Lb]] w fun e w' => e = .returned (.tuple #[.agg #[.slice none 0 0, .slice none 0 0, .int .i64 0], .int .i64 5]) ∧ Below w.heap.size w w' := by
  have hsa := vldB_shape hva
  have hsb := vldB_shape hvb
  have hla := hsa.lo
  have hlb := hsb.lo
  have hma := hsa.len
  have hmb := hsb.len
  have hlah := hsa.hi
  have hlbh := hsb.hi
  have hfa := hsa.few
  have hfb := hsb.few
  have HVa : Hid (∀ W', Below w.heap.size w W' → Calls Try.prog 26 #[.agg #[.slice aSa Sa.length cSa, .slice aMa Ma.length cMa, .int .i64 La]] W' fun e w' => e = .returned (.bool true) ∧ Below W'.heap.size W' w') := Lib.hid fun W' h => by
    have g := valid_any Sa Ma La aSa aMa cSa cMa W' (by omega) (by omega) (hSa.later h) (hMa.later h)
    rw [hva] at g; exact g
  have HVb : Hid (∀ W', Below w.heap.size w W' → Calls Try.prog 26 #[.agg #[.slice aSb Sb.length cSb, .slice aMb Mb.length cMb, .int .i64 Lb]] W' fun e w' => e = .returned (.bool true) ∧ Below W'.heap.size W' w') := Lib.hid fun W' h => by
    have g := valid_any Sb Mb Lb aSb aMb cSb cMb W' (by omega) (by omega) (hSb.later h) (hMb.later h)
    rw [hvb] at g; exact g
  have HB : Hid (∀ W', Calls Try.prog 52 #[.agg #[.slice aSa Sa.length cSa, .slice aMa Ma.length cMa, .int .i64 La], .agg #[.slice aSb Sb.length cSb, .slice aMb Mb.length cMb, .int .i64 Lb], .int .i64 (La + Lb)] W' fun e w' => e = .returned (.tuple #[.agg #[.slice none 0 0, .slice none 0 0, .int .i64 0], .int .i64 5]) ∧ Below W'.heap.size W' w') := Lib.hid fun W' => beside_full_n Sa Ma La aSa aMa cSa cMa Sb Mb Lb aSb aMb cSb cMb (La + Lb) W' (by omega) (by omega) (by omega) (by omega) hn
  have hwL : wrap64 (La + Lb) = La + Lb := wrap_mid (by omega) (by omega)
  have H0 := Lib.hid ((((HH.start w).alloc #[.slice aSa Sa.length cSa, .slice aMa Ma.length cMa, .int .i64 La] 24 rfl rfl).alloc #[.slice aSb Sb.length cSb, .slice aMb Mb.length cMb, .int .i64 Lb] 24 (b := w.heap.size + 1) (by simp) rfl).alloc #[.slice none 0 0, .slice none 0 0, .int .i64 0] 24 (b := w.heap.size + 2) (by simp) rfl)
  clear hsa hsb hva hvb hSa hMa hSb hMb hma hmb hfa hfb hn
  generalize Sa.length = na at *
  generalize Sb.length = nb at *
  generalize Ma.length = ma at *
  generalize Mb.length = mb at *
  go_enter Try.func16, Try.ntmps16
  go_wp2_with fail
  refine (HVa.out _ H0.out.below).mono ?_
  rintro e w1 ⟨rfl, hb⟩
  have H1 := Lib.hid (H0.out.call hb)
  clear hb H0 HVa
  have k00 := H1.out.cell (k := 0) (i := 0) rfl rfl
  have k01 := H1.out.cell (k := 0) (i := 1) rfl rfl
  have k02 := H1.out.cell (k := 0) (i := 2) rfl rfl
  have k10 := H1.out.cell (k := 1) (i := 0) rfl rfl
  have k11 := H1.out.cell (k := 1) (i := 1) rfl rfl
  have k12 := H1.out.cell (k := 1) (i := 2) rfl rfl
  have k20 := H1.out.cell (k := 2) (i := 0) rfl rfl
  have k21 := H1.out.cell (k := 2) (i := 1) rfl rfl
  have k22 := H1.out.cell (k := 2) (i := 2) rfl rfl
  go_wp2_with fail
  clear k00 k01 k02 k10 k11 k12 k20 k21 k22
  refine (HVb.out _ H1.out.below).mono ?_
  rintro e w2 ⟨rfl, hb⟩
  have H2 := Lib.hid (H1.out.call hb)
  clear hb H1 HVb
  have k00 := H2.out.cell (k := 0) (i := 0) rfl rfl
  have k01 := H2.out.cell (k := 0) (i := 1) rfl rfl
  have k02 := H2.out.cell (k := 0) (i := 2) rfl rfl
  have k10 := H2.out.cell (k := 1) (i := 0) rfl rfl
  have k11 := H2.out.cell (k := 1) (i := 1) rfl rfl
  have k12 := H2.out.cell (k := 1) (i := 2) rfl rfl
  have k20 := H2.out.cell (k := 2) (i := 0) rfl rfl
  have k21 := H2.out.cell (k := 2) (i := 1) rfl rfl
  have k22 := H2.out.cell (k := 2) (i := 2) rfl rfl
  go_wp2_with fail
  clear k00 k01 k02 k10 k11 k12 k20 k21 k22
  refine (HB.out _).mono ?_
  rintro e w3 ⟨rfl, hb⟩
  have H3 := Lib.hid (H2.out.call hb)
  clear hb H2 HB
  have k00 := H3.out.cell (k := 0) (i := 0) rfl rfl
  have k01 := H3.out.cell (k := 0) (i := 1) rfl rfl
  have k02 := H3.out.cell (k := 0) (i := 2) rfl rfl
  have k10 := H3.out.cell (k := 1) (i := 0) rfl rfl
  have k11 := H3.out.cell (k := 1) (i := 1) rfl rfl
  have k12 := H3.out.cell (k := 1) (i := 2) rfl rfl
  have k20 := H3.out.cell (k := 2) (i := 0) rfl rfl
  have k21 := H3.out.cell (k := 2) (i := 1) rfl rfl
  have k22 := H3.out.cell (k := 2) (i := 2) rfl rfl
  have f20 := H3.out.frozen (k := 2) rfl 0
  have f21 := H3.out.frozen (k := 2) rfl 1
  have f22 := H3.out.frozen (k := 2) rfl 2
  have H9 := (((H3.out.set (k := 2) rfl 0 (.slice none 0 0)).set (k := 2) rfl 1 (.slice none 0 0)).set (k := 2) rfl 2 (.int .i64 0))
  have hF20 := H9.cell (k := 2) (i := 0) rfl rfl
  have hF21 := H9.cell (k := 2) (i := 1) rfl rfl
  have hF22 := H9.cell (k := 2) (i := 2) rfl rfl
  have Hfin := Lib.hid H9
  clear H9
  go_wp2_with fail
  refine bodyPost_ret (v := .tuple #[.agg #[.slice none 0 0, .slice none 0 0, .int .i64 0], .int .i64 5]) (by simp [results, Try.results16, go_sem, hF20, hF21, hF22]) rfl ?_
  exact ⟨rfl, Hfin.out.below⟩
set_option maxRecDepth 100000 in
set_option maxHeartbeats 1000000 in
theorem union_full_l (Sa Ma : List Int) (La : Int) (aSa aMa : Option Addr) (cSa cMa : Nat) (Sb Mb : List Int) (Lb : Int) (aSb aMb : Option Addr) (cSb cMb : Nat) (w : World) (hva : vldB Sa Ma La = true) (hvb : vldB Sb Mb Lb = true) (hn : Sa.length + Sb.length ≤ 64) (hL : 64 < La + Lb) (hSa : IntsAt w aSa Sa) (hMa : IntsAt w aMa Ma) (hSb : IntsAt w aSb Sb) (hMb : IntsAt w aMb Mb) :
    Calls Try.prog 16 #[.agg #[.slice aSa Sa.length cSa, .slice aMa Ma.length cMa, .int .i64 La], .agg #[.slice aSb Sb.length cSb, .slice aMb Mb.length cMb, .int .i64 Lb]] w fun e w' => e = .returned (.tuple #[.agg #[.slice none 0 0, .slice none 0 0, .int .i64 0], .int .i64 5]) ∧ Below w.heap.size w w' := by
  have hsa := vldB_shape hva
  have hsb := vldB_shape hvb
  have hla := hsa.lo
  have hlb := hsb.lo
  have hma := hsa.len
  have hmb := hsb.len
  have hlah := hsa.hi
  have hlbh := hsb.hi
  have hfa := hsa.few
  have hfb := hsb.few
  have HVa : Hid (∀ W', Below w.heap.size w W' → Calls Try.prog 26 #[.agg #[.slice aSa Sa.length cSa, .slice aMa Ma.length cMa, .int .i64 La]] W' fun e w' => e = .returned (.bool true) ∧ Below W'.heap.size W' w') := Lib.hid fun W' h => by
    have g := valid_any Sa Ma La aSa aMa cSa cMa W' (by omega) (by omega) (hSa.later h) (hMa.later h)
    rw [hva] at g; exact g
  have HVb : Hid (∀ W', Below w.heap.size w W' → Calls Try.prog 26 #[.agg #[.slice aSb Sb.length cSb, .slice aMb Mb.length cMb, .int .i64 Lb]] W' fun e w' => e = .returned (.bool true) ∧ Below W'.heap.size W' w') := Lib.hid fun W' h => by
    have g := valid_any Sb Mb Lb aSb aMb cSb cMb W' (by omega) (by omega) (hSb.later h) (hMb.later h)
    rw [hvb] at g; exact g
  have HB : Hid (∀ W', Calls Try.prog 52 #[.agg #[.slice aSa Sa.length cSa, .slice aMa Ma.length cMa, .int .i64 La], .agg #[.slice aSb Sb.length cSb, .slice aMb Mb.length cMb, .int .i64 Lb], .int .i64 (La + Lb)] W' fun e w' => e = .returned (.tuple #[.agg #[.slice none 0 0, .slice none 0 0, .int .i64 0], .int .i64 5]) ∧ Below W'.heap.size W' w') := Lib.hid fun W' => beside_full_l Sa Ma La aSa aMa cSa cMa Sb Mb Lb aSb aMb cSb cMb (La + Lb) W' (by omega) (by omega) (by omega) (by omega) hn hL
  have hwL : wrap64 (La + Lb) = La + Lb := wrap_mid (by omega) (by omega)
  have H0 := Lib.hid ((((HH.start w).alloc #[.slice aSa Sa.length cSa, .slice aMa Ma.length cMa, .int .i64 La] 24 rfl rfl).alloc #[.slice aSb Sb.length cSb, .slice aMb Mb.length cMb, .int .i64 Lb] 24 (b := w.heap.size + 1) (by simp) rfl).alloc #[.slice none 0 0, .slice none 0 0, .int .i64 0] 24 (b := w.heap.size + 2) (by simp) rfl)
  clear hsa hsb hva hvb hSa hMa hSb hMb hma hmb hfa hfb hn
  generalize Sa.length = na at *
  generalize Sb.length = nb at *
  generalize Ma.length = ma at *
  generalize Mb.length = mb at *
  go_enter Try.func16, Try.ntmps16
  go_wp2_with fail
  refine (HVa.out _ H0.out.below).mono ?_
  rintro e w1 ⟨rfl, hb⟩
  have H1 := Lib.hid (H0.out.call hb)
  clear hb H0 HVa
  have k00 := H1.out.cell (k := 0) (i := 0) rfl rfl
  have k01 := H1.out.cell (k := 0) (i := 1) rfl rfl
  have k02 := H1.out.cell (k := 0) (i := 2) rfl rfl
  have k10 := H1.out.cell (k := 1) (i := 0) rfl rfl
  have k11 := H1.out.cell (k := 1) (i := 1) rfl rfl
  have k12 := H1.out.cell (k := 1) (i := 2) rfl rfl
  have k20 := H1.out.cell (k := 2) (i := 0) rfl rfl
  have k21 := H1.out.cell (k := 2) (i := 1) rfl rfl
  have k22 := H1.out.cell (k := 2) (i := 2) rfl rfl
  go_wp2_with fail
  clear k00 k01 k02 k10 k11 k12 k20 k21 k22
  refine (HVb.out _ H1.out.below).mono ?_
  rintro e w2 ⟨rfl, hb⟩
  have H2 := Lib.hid (H1.out.call hb)
  clear hb H1 HVb
  have k00 := H2.out.cell (k := 0) (i := 0) rfl rfl
  have k01 := H2.out.cell (k := 0) (i := 1) rfl rfl
  have k02 := H2.out.cell (k := 0) (i := 2) rfl rfl
  have k10 := H2.out.cell (k := 1) (i := 0) rfl rfl
  have k11 := H2.out.cell (k := 1) (i := 1) rfl rfl
  have k12 := H2.out.cell (k := 1) (i := 2) rfl rfl
  have k20 := H2.out.cell (k := 2) (i := 0) rfl rfl
  have k21 := H2.out.cell (k := 2) (i := 1) rfl rfl
  have k22 := H2.out.cell (k := 2) (i := 2) rfl rfl
  go_wp2_with fail
  clear k00 k01 k02 k10 k11 k12 k20 k21 k22
  refine (HB.out _).mono ?_
  rintro e w3 ⟨rfl, hb⟩
  have H3 := Lib.hid (H2.out.call hb)
  clear hb H2 HB
  have k00 := H3.out.cell (k := 0) (i := 0) rfl rfl
  have k01 := H3.out.cell (k := 0) (i := 1) rfl rfl
  have k02 := H3.out.cell (k := 0) (i := 2) rfl rfl
  have k10 := H3.out.cell (k := 1) (i := 0) rfl rfl
  have k11 := H3.out.cell (k := 1) (i := 1) rfl rfl
  have k12 := H3.out.cell (k := 1) (i := 2) rfl rfl
  have k20 := H3.out.cell (k := 2) (i := 0) rfl rfl
  have k21 := H3.out.cell (k := 2) (i := 1) rfl rfl
  have k22 := H3.out.cell (k := 2) (i := 2) rfl rfl
  have f20 := H3.out.frozen (k := 2) rfl 0
  have f21 := H3.out.frozen (k := 2) rfl 1
  have f22 := H3.out.frozen (k := 2) rfl 2
  have H9 := (((H3.out.set (k := 2) rfl 0 (.slice none 0 0)).set (k := 2) rfl 1 (.slice none 0 0)).set (k := 2) rfl 2 (.int .i64 0))
  have hF20 := H9.cell (k := 2) (i := 0) rfl rfl
  have hF21 := H9.cell (k := 2) (i := 1) rfl rfl
  have hF22 := H9.cell (k := 2) (i := 2) rfl rfl
  have Hfin := Lib.hid H9
  clear H9
  go_wp2_with fail
  refine bodyPost_ret (v := .tuple #[.agg #[.slice none 0 0, .slice none 0 0, .int .i64 0], .int .i64 5]) (by simp [results, Try.results16, go_sem, hF20, hF21, hF22]) rfl ?_
  exact ⟨rfl, Hfin.out.below⟩
set_option maxRecDepth 100000 in
set_option maxHeartbeats 1000000 in
theorem sum_range_a (Sa Ma : List Int) (La : Int) (aSa aMa : Option Addr) (cSa cMa : Nat) (Sb Mb : List Int) (Lb : Int) (aSb aMb : Option Addr) (cSb cMb : Nat) (x y : Int) (w : World) (hva : vldB Sa Ma La = true) (hvb : vldB Sb Mb Lb = true) (hpa : placeB Sa La x = false) (hSa : IntsAt w aSa Sa) (hMa : IntsAt w aMa Ma) (hSb : IntsAt w aSb Sb) (hMb : IntsAt w aMb Mb) :
    Calls Try.prog 32 #[.agg #[.slice aSa Sa.length cSa, .slice aMa Ma.length cMa, .int .i64 La], .int .i64 x, .agg #[.slice aSb Sb.length cSb, .slice aMb Mb.length cMb, .int .i64 Lb], .int .i64 y] w fun e w' => e = .returned (.tuple #[.agg #[.slice none 0 0, .slice none 0 0, .int .i64 0], .int .i64 2]) ∧ Below w.heap.size w w' := by
  have hsa := vldB_shape hva
  have hsb := vldB_shape hvb
  have hla := hsa.lo
  have hlb := hsb.lo
  have hma := hsa.len
  have hmb := hsb.len
  have hlah := hsa.hi
  have hlbh := hsb.hi
  have hfa := hsa.few
  have hfb := hsb.few
  have HVa : Hid (∀ W', Below w.heap.size w W' → Calls Try.prog 26 #[.agg #[.slice aSa Sa.length cSa, .slice aMa Ma.length cMa, .int .i64 La]] W' fun e w' => e = .returned (.bool true) ∧ Below W'.heap.size W' w') := Lib.hid fun W' h => by
    have g := valid_any Sa Ma La aSa aMa cSa cMa W' (by omega) (by omega) (hSa.later h) (hMa.later h)
    rw [hva] at g; exact g
  have HVb : Hid (∀ W', Below w.heap.size w W' → Calls Try.prog 26 #[.agg #[.slice aSb Sb.length cSb, .slice aMb Mb.length cMb, .int .i64 Lb]] W' fun e w' => e = .returned (.bool true) ∧ Below W'.heap.size W' w') := Lib.hid fun W' h => by
    have g := valid_any Sb Mb Lb aSb aMb cSb cMb W' (by omega) (by omega) (hSb.later h) (hMb.later h)
    rw [hvb] at g; exact g
  have HEa : Hid (∀ W', Below w.heap.size w W' → Calls Try.prog 70 #[.agg #[.slice aSa Sa.length cSa, .slice aMa Ma.length cMa, .int .i64 La], .int .i64 x] W' fun e w' => e = .returned (.bool false) ∧ Below W'.heap.size W' w') := Lib.hid fun W' h => by
    have g := end_any Sa Ma La aSa aMa cSa cMa x W' (by omega) hma (hSa.later h)
    rw [hpa] at g; exact g
  have H0 := Lib.hid ((((HH.start w).alloc #[.slice aSa Sa.length cSa, .slice aMa Ma.length cMa, .int .i64 La] 24 rfl rfl).alloc #[.slice aSb Sb.length cSb, .slice aMb Mb.length cMb, .int .i64 Lb] 24 (b := w.heap.size + 1) (by simp) rfl).alloc #[.slice none 0 0, .slice none 0 0, .int .i64 0] 24 (b := w.heap.size + 2) (by simp) rfl)
  clear hsa hsb hva hvb hSa hMa hSb hMb hma hmb hfa hfb hpa
  generalize Sa.length = na at *
  generalize Sb.length = nb at *
  generalize Ma.length = ma at *
  generalize Mb.length = mb at *
  go_enter Try.func32, Try.ntmps32
  go_wp2_with fail
  refine (HVa.out _ H0.out.below).mono ?_
  rintro e w1 ⟨rfl, hb⟩
  have H1 := Lib.hid (H0.out.call hb)
  clear hb H0 HVa
  have k00 := H1.out.cell (k := 0) (i := 0) rfl rfl
  have k01 := H1.out.cell (k := 0) (i := 1) rfl rfl
  have k02 := H1.out.cell (k := 0) (i := 2) rfl rfl
  have k10 := H1.out.cell (k := 1) (i := 0) rfl rfl
  have k11 := H1.out.cell (k := 1) (i := 1) rfl rfl
  have k12 := H1.out.cell (k := 1) (i := 2) rfl rfl
  have k20 := H1.out.cell (k := 2) (i := 0) rfl rfl
  have k21 := H1.out.cell (k := 2) (i := 1) rfl rfl
  have k22 := H1.out.cell (k := 2) (i := 2) rfl rfl
  go_wp2_with fail
  clear k00 k01 k02 k10 k11 k12 k20 k21 k22
  refine (HVb.out _ H1.out.below).mono ?_
  rintro e w2 ⟨rfl, hb⟩
  have H2 := Lib.hid (H1.out.call hb)
  clear hb H1 HVb
  have k00 := H2.out.cell (k := 0) (i := 0) rfl rfl
  have k01 := H2.out.cell (k := 0) (i := 1) rfl rfl
  have k02 := H2.out.cell (k := 0) (i := 2) rfl rfl
  have k10 := H2.out.cell (k := 1) (i := 0) rfl rfl
  have k11 := H2.out.cell (k := 1) (i := 1) rfl rfl
  have k12 := H2.out.cell (k := 1) (i := 2) rfl rfl
  have k20 := H2.out.cell (k := 2) (i := 0) rfl rfl
  have k21 := H2.out.cell (k := 2) (i := 1) rfl rfl
  have k22 := H2.out.cell (k := 2) (i := 2) rfl rfl
  go_wp2_with fail
  clear k00 k01 k02 k10 k11 k12 k20 k21 k22
  refine (HEa.out _ H2.out.below).mono ?_
  rintro e w3 ⟨rfl, hb⟩
  have H3 := Lib.hid (H2.out.call hb)
  clear hb H2 HEa
  have k00 := H3.out.cell (k := 0) (i := 0) rfl rfl
  have k01 := H3.out.cell (k := 0) (i := 1) rfl rfl
  have k02 := H3.out.cell (k := 0) (i := 2) rfl rfl
  have k10 := H3.out.cell (k := 1) (i := 0) rfl rfl
  have k11 := H3.out.cell (k := 1) (i := 1) rfl rfl
  have k12 := H3.out.cell (k := 1) (i := 2) rfl rfl
  have k20 := H3.out.cell (k := 2) (i := 0) rfl rfl
  have k21 := H3.out.cell (k := 2) (i := 1) rfl rfl
  have k22 := H3.out.cell (k := 2) (i := 2) rfl rfl
  have f20 := H3.out.frozen (k := 2) rfl 0
  have f21 := H3.out.frozen (k := 2) rfl 1
  have f22 := H3.out.frozen (k := 2) rfl 2
  have H9 := (((H3.out.set (k := 2) rfl 0 (.slice none 0 0)).set (k := 2) rfl 1 (.slice none 0 0)).set (k := 2) rfl 2 (.int .i64 0))
  have hF20 := H9.cell (k := 2) (i := 0) rfl rfl
  have hF21 := H9.cell (k := 2) (i := 1) rfl rfl
  have hF22 := H9.cell (k := 2) (i := 2) rfl rfl
  have Hfin := Lib.hid H9
  clear H9
  go_wp2_with fail
  refine bodyPost_ret (v := .tuple #[.agg #[.slice none 0 0, .slice none 0 0, .int .i64 0], .int .i64 2]) (by simp [results, Try.results32, go_sem, hF20, hF21, hF22]) rfl ?_
  exact ⟨rfl, Hfin.out.below⟩
set_option maxRecDepth 100000 in
set_option maxHeartbeats 1000000 in
theorem sum_range_b (Sa Ma : List Int) (La : Int) (aSa aMa : Option Addr) (cSa cMa : Nat) (Sb Mb : List Int) (Lb : Int) (aSb aMb : Option Addr) (cSb cMb : Nat) (x y : Int) (w : World) (hva : vldB Sa Ma La = true) (hvb : vldB Sb Mb Lb = true) (hpa : placeB Sa La x = true) (hpb : placeB Sb Lb y = false) (hSa : IntsAt w aSa Sa) (hMa : IntsAt w aMa Ma) (hSb : IntsAt w aSb Sb) (hMb : IntsAt w aMb Mb) :
    Calls Try.prog 32 #[.agg #[.slice aSa Sa.length cSa, .slice aMa Ma.length cMa, .int .i64 La], .int .i64 x, .agg #[.slice aSb Sb.length cSb, .slice aMb Mb.length cMb, .int .i64 Lb], .int .i64 y] w fun e w' => e = .returned (.tuple #[.agg #[.slice none 0 0, .slice none 0 0, .int .i64 0], .int .i64 2]) ∧ Below w.heap.size w w' := by
  have hsa := vldB_shape hva
  have hsb := vldB_shape hvb
  have hla := hsa.lo
  have hlb := hsb.lo
  have hma := hsa.len
  have hmb := hsb.len
  have hlah := hsa.hi
  have hlbh := hsb.hi
  have hfa := hsa.few
  have hfb := hsb.few
  have HVa : Hid (∀ W', Below w.heap.size w W' → Calls Try.prog 26 #[.agg #[.slice aSa Sa.length cSa, .slice aMa Ma.length cMa, .int .i64 La]] W' fun e w' => e = .returned (.bool true) ∧ Below W'.heap.size W' w') := Lib.hid fun W' h => by
    have g := valid_any Sa Ma La aSa aMa cSa cMa W' (by omega) (by omega) (hSa.later h) (hMa.later h)
    rw [hva] at g; exact g
  have HVb : Hid (∀ W', Below w.heap.size w W' → Calls Try.prog 26 #[.agg #[.slice aSb Sb.length cSb, .slice aMb Mb.length cMb, .int .i64 Lb]] W' fun e w' => e = .returned (.bool true) ∧ Below W'.heap.size W' w') := Lib.hid fun W' h => by
    have g := valid_any Sb Mb Lb aSb aMb cSb cMb W' (by omega) (by omega) (hSb.later h) (hMb.later h)
    rw [hvb] at g; exact g
  have HEa : Hid (∀ W', Below w.heap.size w W' → Calls Try.prog 70 #[.agg #[.slice aSa Sa.length cSa, .slice aMa Ma.length cMa, .int .i64 La], .int .i64 x] W' fun e w' => e = .returned (.bool true) ∧ Below W'.heap.size W' w') := Lib.hid fun W' h => by
    have g := end_any Sa Ma La aSa aMa cSa cMa x W' (by omega) hma (hSa.later h)
    rw [hpa] at g; exact g
  have HEb : Hid (∀ W', Below w.heap.size w W' → Calls Try.prog 70 #[.agg #[.slice aSb Sb.length cSb, .slice aMb Mb.length cMb, .int .i64 Lb], .int .i64 y] W' fun e w' => e = .returned (.bool false) ∧ Below W'.heap.size W' w') := Lib.hid fun W' h => by
    have g := end_any Sb Mb Lb aSb aMb cSb cMb y W' (by omega) hmb (hSb.later h)
    rw [hpb] at g; exact g
  have H0 := Lib.hid ((((HH.start w).alloc #[.slice aSa Sa.length cSa, .slice aMa Ma.length cMa, .int .i64 La] 24 rfl rfl).alloc #[.slice aSb Sb.length cSb, .slice aMb Mb.length cMb, .int .i64 Lb] 24 (b := w.heap.size + 1) (by simp) rfl).alloc #[.slice none 0 0, .slice none 0 0, .int .i64 0] 24 (b := w.heap.size + 2) (by simp) rfl)
  clear hsa hsb hva hvb hSa hMa hSb hMb hma hmb hfa hfb hpa hpb
  generalize Sa.length = na at *
  generalize Sb.length = nb at *
  generalize Ma.length = ma at *
  generalize Mb.length = mb at *
  go_enter Try.func32, Try.ntmps32
  go_wp2_with fail
  refine (HVa.out _ H0.out.below).mono ?_
  rintro e w1 ⟨rfl, hb⟩
  have H1 := Lib.hid (H0.out.call hb)
  clear hb H0 HVa
  have k00 := H1.out.cell (k := 0) (i := 0) rfl rfl
  have k01 := H1.out.cell (k := 0) (i := 1) rfl rfl
  have k02 := H1.out.cell (k := 0) (i := 2) rfl rfl
  have k10 := H1.out.cell (k := 1) (i := 0) rfl rfl
  have k11 := H1.out.cell (k := 1) (i := 1) rfl rfl
  have k12 := H1.out.cell (k := 1) (i := 2) rfl rfl
  have k20 := H1.out.cell (k := 2) (i := 0) rfl rfl
  have k21 := H1.out.cell (k := 2) (i := 1) rfl rfl
  have k22 := H1.out.cell (k := 2) (i := 2) rfl rfl
  go_wp2_with fail
  clear k00 k01 k02 k10 k11 k12 k20 k21 k22
  refine (HVb.out _ H1.out.below).mono ?_
  rintro e w2 ⟨rfl, hb⟩
  have H2 := Lib.hid (H1.out.call hb)
  clear hb H1 HVb
  have k00 := H2.out.cell (k := 0) (i := 0) rfl rfl
  have k01 := H2.out.cell (k := 0) (i := 1) rfl rfl
  have k02 := H2.out.cell (k := 0) (i := 2) rfl rfl
  have k10 := H2.out.cell (k := 1) (i := 0) rfl rfl
  have k11 := H2.out.cell (k := 1) (i := 1) rfl rfl
  have k12 := H2.out.cell (k := 1) (i := 2) rfl rfl
  have k20 := H2.out.cell (k := 2) (i := 0) rfl rfl
  have k21 := H2.out.cell (k := 2) (i := 1) rfl rfl
  have k22 := H2.out.cell (k := 2) (i := 2) rfl rfl
  go_wp2_with fail
  clear k00 k01 k02 k10 k11 k12 k20 k21 k22
  refine (HEa.out _ H2.out.below).mono ?_
  rintro e w3 ⟨rfl, hb⟩
  have H3 := Lib.hid (H2.out.call hb)
  clear hb H2 HEa
  have k00 := H3.out.cell (k := 0) (i := 0) rfl rfl
  have k01 := H3.out.cell (k := 0) (i := 1) rfl rfl
  have k02 := H3.out.cell (k := 0) (i := 2) rfl rfl
  have k10 := H3.out.cell (k := 1) (i := 0) rfl rfl
  have k11 := H3.out.cell (k := 1) (i := 1) rfl rfl
  have k12 := H3.out.cell (k := 1) (i := 2) rfl rfl
  have k20 := H3.out.cell (k := 2) (i := 0) rfl rfl
  have k21 := H3.out.cell (k := 2) (i := 1) rfl rfl
  have k22 := H3.out.cell (k := 2) (i := 2) rfl rfl
  go_wp2_with fail
  clear k00 k01 k02 k10 k11 k12 k20 k21 k22
  refine (HEb.out _ H3.out.below).mono ?_
  rintro e w4 ⟨rfl, hb⟩
  have H4 := Lib.hid (H3.out.call hb)
  clear hb H3 HEb
  have k00 := H4.out.cell (k := 0) (i := 0) rfl rfl
  have k01 := H4.out.cell (k := 0) (i := 1) rfl rfl
  have k02 := H4.out.cell (k := 0) (i := 2) rfl rfl
  have k10 := H4.out.cell (k := 1) (i := 0) rfl rfl
  have k11 := H4.out.cell (k := 1) (i := 1) rfl rfl
  have k12 := H4.out.cell (k := 1) (i := 2) rfl rfl
  have k20 := H4.out.cell (k := 2) (i := 0) rfl rfl
  have k21 := H4.out.cell (k := 2) (i := 1) rfl rfl
  have k22 := H4.out.cell (k := 2) (i := 2) rfl rfl
  have f20 := H4.out.frozen (k := 2) rfl 0
  have f21 := H4.out.frozen (k := 2) rfl 1
  have f22 := H4.out.frozen (k := 2) rfl 2
  have H9 := (((H4.out.set (k := 2) rfl 0 (.slice none 0 0)).set (k := 2) rfl 1 (.slice none 0 0)).set (k := 2) rfl 2 (.int .i64 0))
  have hF20 := H9.cell (k := 2) (i := 0) rfl rfl
  have hF21 := H9.cell (k := 2) (i := 1) rfl rfl
  have hF22 := H9.cell (k := 2) (i := 2) rfl rfl
  have Hfin := Lib.hid H9
  clear H9
  go_wp2_with fail
  refine bodyPost_ret (v := .tuple #[.agg #[.slice none 0 0, .slice none 0 0, .int .i64 0], .int .i64 2]) (by simp [results, Try.results32, go_sem, hF20, hF21, hF22]) rfl ?_
  exact ⟨rfl, Hfin.out.below⟩
set_option maxRecDepth 100000 in
set_option maxHeartbeats 1000000 in
theorem sum_loop_a (Sa Ma : List Int) (La : Int) (aSa aMa : Option Addr) (cSa cMa : Nat) (Sb Mb : List Int) (Lb : Int) (aSb aMb : Option Addr) (cSb cMb : Nat) (x y : Int) (w : World) (hva : vldB Sa Ma La = true) (hvb : vldB Sb Mb Lb = true) (hpa : placeB Sa La x = true) (hpb : placeB Sb Lb y = true) (hx : x = -1) (hn : Sa.length + Sb.length ≤ 64) (hL : La + Lb - 1 ≤ 64) (hSa : IntsAt w aSa Sa) (hMa : IntsAt w aMa Ma) (hSb : IntsAt w aSb Sb) (hMb : IntsAt w aMb Mb) :
    Calls Try.prog 32 #[.agg #[.slice aSa Sa.length cSa, .slice aMa Ma.length cMa, .int .i64 La], .int .i64 x, .agg #[.slice aSb Sb.length cSb, .slice aMb Mb.length cMb, .int .i64 Lb], .int .i64 y] w fun e w' => ∃ a b c d, e = .returned (.tuple #[.agg #[.slice a (Sa.length + Sb.length) c, .slice b (Ma.length + Mb.length) d, .int .i64 (La + Lb - 1)], .int .i64 0]) ∧ Own w' w.heap.size 3 a c (ints (Sa ++ Sb)) ∧ Own w' w.heap.size 3 b d (ints (uniM Ma Mb)) ∧ Below w.heap.size w w' := by
  have hsa := vldB_shape hva
  have hsb := vldB_shape hvb
  have hla := hsa.lo
  have hlb := hsb.lo
  have hma := hsa.len
  have hmb := hsb.len
  have hlah := hsa.hi
  have hlbh := hsb.hi
  have hfa := hsa.few
  have hfb := hsb.few
  have HVa : Hid (∀ W', Below w.heap.size w W' → Calls Try.prog 26 #[.agg #[.slice aSa Sa.length cSa, .slice aMa Ma.length cMa, .int .i64 La]] W' fun e w' => e = .returned (.bool true) ∧ Below W'.heap.size W' w') := Lib.hid fun W' h => by
    have g := valid_any Sa Ma La aSa aMa cSa cMa W' (by omega) (by omega) (hSa.later h) (hMa.later h)
    rw [hva] at g; exact g
  have HVb : Hid (∀ W', Below w.heap.size w W' → Calls Try.prog 26 #[.agg #[.slice aSb Sb.length cSb, .slice aMb Mb.length cMb, .int .i64 Lb]] W' fun e w' => e = .returned (.bool true) ∧ Below W'.heap.size W' w') := Lib.hid fun W' h => by
    have g := valid_any Sb Mb Lb aSb aMb cSb cMb W' (by omega) (by omega) (hSb.later h) (hMb.later h)
    rw [hvb] at g; exact g
  have HEa : Hid (∀ W', Below w.heap.size w W' → Calls Try.prog 70 #[.agg #[.slice aSa Sa.length cSa, .slice aMa Ma.length cMa, .int .i64 La], .int .i64 x] W' fun e w' => e = .returned (.bool true) ∧ Below W'.heap.size W' w') := Lib.hid fun W' h => by
    have g := end_any Sa Ma La aSa aMa cSa cMa x W' (by omega) hma (hSa.later h)
    rw [hpa] at g; exact g
  have HEb : Hid (∀ W', Below w.heap.size w W' → Calls Try.prog 70 #[.agg #[.slice aSb Sb.length cSb, .slice aMb Mb.length cMb, .int .i64 Lb], .int .i64 y] W' fun e w' => e = .returned (.bool true) ∧ Below W'.heap.size W' w') := Lib.hid fun W' h => by
    have g := end_any Sb Mb Lb aSb aMb cSb cMb y W' (by omega) hmb (hSb.later h)
    rw [hpb] at g; exact g
  have HB : Hid (∀ W', Below w.heap.size w W' → Calls Try.prog 52 #[.agg #[.slice aSa Sa.length cSa, .slice aMa Ma.length cMa, .int .i64 La], .agg #[.slice aSb Sb.length cSb, .slice aMb Mb.length cMb, .int .i64 Lb], .int .i64 (La + Lb - 1)] W' fun e w' => ∃ a b c d, e = .returned (.tuple #[.agg #[.slice a (Sa.length + Sb.length) c, .slice b (Ma.length + Mb.length) d, .int .i64 (La + Lb - 1)], .int .i64 0]) ∧ Own w' W'.heap.size 3 a c (ints (Sa ++ Sb)) ∧ Own w' W'.heap.size 3 b d (ints (uniM Ma Mb)) ∧ Below W'.heap.size W' w') := Lib.hid fun W' h =>
    (beside_yes Sa Ma Sb Mb La Lb (La + Lb - 1) aSa aMa aSb aMb cSa cMa cSb cMb W' hn (by omega) (by omega) (by omega) (fun k hk => by have := hsb.range k (by omega); omega) (hSa.later h) (hMa.later h) (hSb.later h) (hMb.later h)).mono fun e w' ⟨a, b, c, d, h1, h2, h3, _, h5⟩ => ⟨a, b, c, d, h1, h2, h3, h5⟩
  have hwL : wrap64 (La + Lb) = La + Lb := wrap_mid (by omega) (by omega)
  have hwM : wrap64 (La + Lb - 1) = La + Lb - 1 := wrap_mid (by omega) (by omega)
  subst hx
  have H0 := Lib.hid ((((HH.start w).alloc #[.slice aSa Sa.length cSa, .slice aMa Ma.length cMa, .int .i64 La] 24 rfl rfl).alloc #[.slice aSb Sb.length cSb, .slice aMb Mb.length cMb, .int .i64 Lb] 24 (b := w.heap.size + 1) (by simp) rfl).alloc #[.slice none 0 0, .slice none 0 0, .int .i64 0] 24 (b := w.heap.size + 2) (by simp) rfl)
  clear hsa hsb hva hvb hSa hMa hSb hMb hma hmb hfa hfb hpa hpb
  generalize uniM Ma Mb = V at *
  generalize Sa ++ Sb = T at *
  generalize Sa.length = na at *
  generalize Sb.length = nb at *
  generalize Ma.length = ma at *
  generalize Mb.length = mb at *
  go_enter Try.func32, Try.ntmps32
  go_wp2_with fail
  refine (HVa.out _ H0.out.below).mono ?_
  rintro e w1 ⟨rfl, hb⟩
  have H1 := Lib.hid (H0.out.call hb)
  clear hb H0 HVa
  have k00 := H1.out.cell (k := 0) (i := 0) rfl rfl
  have k01 := H1.out.cell (k := 0) (i := 1) rfl rfl
  have k02 := H1.out.cell (k := 0) (i := 2) rfl rfl
  have k10 := H1.out.cell (k := 1) (i := 0) rfl rfl
  have k11 := H1.out.cell (k := 1) (i := 1) rfl rfl
  have k12 := H1.out.cell (k := 1) (i := 2) rfl rfl
  have k20 := H1.out.cell (k := 2) (i := 0) rfl rfl
  have k21 := H1.out.cell (k := 2) (i := 1) rfl rfl
  have k22 := H1.out.cell (k := 2) (i := 2) rfl rfl
  go_wp2_with fail
  clear k00 k01 k02 k10 k11 k12 k20 k21 k22
  refine (HVb.out _ H1.out.below).mono ?_
  rintro e w2 ⟨rfl, hb⟩
  have H2 := Lib.hid (H1.out.call hb)
  clear hb H1 HVb
  have k00 := H2.out.cell (k := 0) (i := 0) rfl rfl
  have k01 := H2.out.cell (k := 0) (i := 1) rfl rfl
  have k02 := H2.out.cell (k := 0) (i := 2) rfl rfl
  have k10 := H2.out.cell (k := 1) (i := 0) rfl rfl
  have k11 := H2.out.cell (k := 1) (i := 1) rfl rfl
  have k12 := H2.out.cell (k := 1) (i := 2) rfl rfl
  have k20 := H2.out.cell (k := 2) (i := 0) rfl rfl
  have k21 := H2.out.cell (k := 2) (i := 1) rfl rfl
  have k22 := H2.out.cell (k := 2) (i := 2) rfl rfl
  go_wp2_with fail
  clear k00 k01 k02 k10 k11 k12 k20 k21 k22
  refine (HEa.out _ H2.out.below).mono ?_
  rintro e w3 ⟨rfl, hb⟩
  have H3 := Lib.hid (H2.out.call hb)
  clear hb H2 HEa
  have k00 := H3.out.cell (k := 0) (i := 0) rfl rfl
  have k01 := H3.out.cell (k := 0) (i := 1) rfl rfl
  have k02 := H3.out.cell (k := 0) (i := 2) rfl rfl
  have k10 := H3.out.cell (k := 1) (i := 0) rfl rfl
  have k11 := H3.out.cell (k := 1) (i := 1) rfl rfl
  have k12 := H3.out.cell (k := 1) (i := 2) rfl rfl
  have k20 := H3.out.cell (k := 2) (i := 0) rfl rfl
  have k21 := H3.out.cell (k := 2) (i := 1) rfl rfl
  have k22 := H3.out.cell (k := 2) (i := 2) rfl rfl
  go_wp2_with fail
  clear k00 k01 k02 k10 k11 k12 k20 k21 k22
  refine (HEb.out _ H3.out.below).mono ?_
  rintro e w4 ⟨rfl, hb⟩
  have H4 := Lib.hid (H3.out.call hb)
  clear hb H3 HEb
  have k00 := H4.out.cell (k := 0) (i := 0) rfl rfl
  have k01 := H4.out.cell (k := 0) (i := 1) rfl rfl
  have k02 := H4.out.cell (k := 0) (i := 2) rfl rfl
  have k10 := H4.out.cell (k := 1) (i := 0) rfl rfl
  have k11 := H4.out.cell (k := 1) (i := 1) rfl rfl
  have k12 := H4.out.cell (k := 1) (i := 2) rfl rfl
  have k20 := H4.out.cell (k := 2) (i := 0) rfl rfl
  have k21 := H4.out.cell (k := 2) (i := 1) rfl rfl
  have k22 := H4.out.cell (k := 2) (i := 2) rfl rfl
  go_wp2_with fail
  clear k00 k01 k02 k10 k11 k12 k20 k21 k22
  refine (HB.out _ H4.out.below).mono ?_
  rintro e w5 ⟨a5, b5, c5, d5, rfl, ho1, ho2, hb⟩
  have H5 := Lib.hid (H4.out.call hb)
  have HO1 := Lib.hid (ho1.mono H4.out.below.size)
  have HO2 := Lib.hid (ho2.mono H4.out.below.size)
  clear ho1 ho2
  clear hb H4 
  have k00 := H5.out.cell (k := 0) (i := 0) rfl rfl
  have k01 := H5.out.cell (k := 0) (i := 1) rfl rfl
  have k02 := H5.out.cell (k := 0) (i := 2) rfl rfl
  have k10 := H5.out.cell (k := 1) (i := 0) rfl rfl
  have k11 := H5.out.cell (k := 1) (i := 1) rfl rfl
  have k12 := H5.out.cell (k := 1) (i := 2) rfl rfl
  have k20 := H5.out.cell (k := 2) (i := 0) rfl rfl
  have k21 := H5.out.cell (k := 2) (i := 1) rfl rfl
  have k22 := H5.out.cell (k := 2) (i := 2) rfl rfl
  have f20 := H5.out.frozen (k := 2) rfl 0
  have f21 := H5.out.frozen (k := 2) rfl 1
  have f22 := H5.out.frozen (k := 2) rfl 2
  have H9 := (((H5.out.set (k := 2) rfl 0 (.slice a5 (na + nb) c5)).set (k := 2) rfl 1 (.slice b5 (ma + mb) d5)).set (k := 2) rfl 2 (.int .i64 (La + Lb - 1)))
  have hF20 := H9.cell (k := 2) (i := 0) rfl rfl
  have hF21 := H9.cell (k := 2) (i := 1) rfl rfl
  have hF22 := H9.cell (k := 2) (i := 2) rfl rfl
  have Hfin := Lib.hid H9
  clear H9
  go_wp2_with fail
  refine bodyPost_ret (v := .tuple #[.agg #[.slice a5 (na + nb) c5, .slice b5 (ma + mb) d5, .int .i64 (La + Lb - 1)], .int .i64 0]) (by simp [results, Try.results32, go_sem, hF20, hF21, hF22]) rfl ?_
  have q1 := ((HO1.out.setOther (H5.out.row (k := 2) rfl) (by decide) 0 (.slice a5 (na + nb) c5)).setOther ((H5.out.set (k := 2) rfl 0 (.slice a5 (na + nb) c5)).row (k := 2) rfl) (by decide) 1 (.slice b5 (ma + mb) d5)).setOther (((H5.out.set (k := 2) rfl 0 (.slice a5 (na + nb) c5)).set (k := 2) rfl 1 (.slice b5 (ma + mb) d5)).row (k := 2) rfl) (by decide) 2 (.int .i64 (La + Lb - 1))
  have q2 := ((HO2.out.setOther (H5.out.row (k := 2) rfl) (by decide) 0 (.slice a5 (na + nb) c5)).setOther ((H5.out.set (k := 2) rfl 0 (.slice a5 (na + nb) c5)).row (k := 2) rfl) (by decide) 1 (.slice b5 (ma + mb) d5)).setOther (((H5.out.set (k := 2) rfl 0 (.slice a5 (na + nb) c5)).set (k := 2) rfl 1 (.slice b5 (ma + mb) d5)).row (k := 2) rfl) (by decide) 2 (.int .i64 (La + Lb - 1))
  exact ⟨_, _, _, _, rfl, q1, q2, Hfin.out.below⟩
set_option maxRecDepth 100000 in
set_option maxHeartbeats 1000000 in
theorem sum_loop_b (Sa Ma : List Int) (La : Int) (aSa aMa : Option Addr) (cSa cMa : Nat) (Sb Mb : List Int) (Lb : Int) (aSb aMb : Option Addr) (cSb cMb : Nat) (x y : Int) (w : World) (hva : vldB Sa Ma La = true) (hvb : vldB Sb Mb Lb = true) (hpa : placeB Sa La x = true) (hpb : placeB Sb Lb y = true) (hx : x ≠ -1) (hy : y = -1) (hn : Sa.length + Sb.length ≤ 64) (hL : La + Lb - 1 ≤ 64) (hSa : IntsAt w aSa Sa) (hMa : IntsAt w aMa Ma) (hSb : IntsAt w aSb Sb) (hMb : IntsAt w aMb Mb) :
    Calls Try.prog 32 #[.agg #[.slice aSa Sa.length cSa, .slice aMa Ma.length cMa, .int .i64 La], .int .i64 x, .agg #[.slice aSb Sb.length cSb, .slice aMb Mb.length cMb, .int .i64 Lb], .int .i64 y] w fun e w' => ∃ a b c d, e = .returned (.tuple #[.agg #[.slice a (Sa.length + Sb.length) c, .slice b (Ma.length + Mb.length) d, .int .i64 (La + Lb - 1)], .int .i64 0]) ∧ Own w' w.heap.size 3 a c (ints (Sa ++ Sb)) ∧ Own w' w.heap.size 3 b d (ints (uniM Ma Mb)) ∧ Below w.heap.size w w' := by
  have hsa := vldB_shape hva
  have hsb := vldB_shape hvb
  have hla := hsa.lo
  have hlb := hsb.lo
  have hma := hsa.len
  have hmb := hsb.len
  have hlah := hsa.hi
  have hlbh := hsb.hi
  have hfa := hsa.few
  have hfb := hsb.few
  have HVa : Hid (∀ W', Below w.heap.size w W' → Calls Try.prog 26 #[.agg #[.slice aSa Sa.length cSa, .slice aMa Ma.length cMa, .int .i64 La]] W' fun e w' => e = .returned (.bool true) ∧ Below W'.heap.size W' w') := Lib.hid fun W' h => by
    have g := valid_any Sa Ma La aSa aMa cSa cMa W' (by omega) (by omega) (hSa.later h) (hMa.later h)
    rw [hva] at g; exact g
  have HVb : Hid (∀ W', Below w.heap.size w W' → Calls Try.prog 26 #[.agg #[.slice aSb Sb.length cSb, .slice aMb Mb.length cMb, .int .i64 Lb]] W' fun e w' => e = .returned (.bool true) ∧ Below W'.heap.size W' w') := Lib.hid fun W' h => by
    have g := valid_any Sb Mb Lb aSb aMb cSb cMb W' (by omega) (by omega) (hSb.later h) (hMb.later h)
    rw [hvb] at g; exact g
  have HEa : Hid (∀ W', Below w.heap.size w W' → Calls Try.prog 70 #[.agg #[.slice aSa Sa.length cSa, .slice aMa Ma.length cMa, .int .i64 La], .int .i64 x] W' fun e w' => e = .returned (.bool true) ∧ Below W'.heap.size W' w') := Lib.hid fun W' h => by
    have g := end_any Sa Ma La aSa aMa cSa cMa x W' (by omega) hma (hSa.later h)
    rw [hpa] at g; exact g
  have HEb : Hid (∀ W', Below w.heap.size w W' → Calls Try.prog 70 #[.agg #[.slice aSb Sb.length cSb, .slice aMb Mb.length cMb, .int .i64 Lb], .int .i64 y] W' fun e w' => e = .returned (.bool true) ∧ Below W'.heap.size W' w') := Lib.hid fun W' h => by
    have g := end_any Sb Mb Lb aSb aMb cSb cMb y W' (by omega) hmb (hSb.later h)
    rw [hpb] at g; exact g
  have HB : Hid (∀ W', Below w.heap.size w W' → Calls Try.prog 52 #[.agg #[.slice aSa Sa.length cSa, .slice aMa Ma.length cMa, .int .i64 La], .agg #[.slice aSb Sb.length cSb, .slice aMb Mb.length cMb, .int .i64 Lb], .int .i64 (La + Lb - 1)] W' fun e w' => ∃ a b c d, e = .returned (.tuple #[.agg #[.slice a (Sa.length + Sb.length) c, .slice b (Ma.length + Mb.length) d, .int .i64 (La + Lb - 1)], .int .i64 0]) ∧ Own w' W'.heap.size 3 a c (ints (Sa ++ Sb)) ∧ Own w' W'.heap.size 3 b d (ints (uniM Ma Mb)) ∧ Below W'.heap.size W' w') := Lib.hid fun W' h =>
    (beside_yes Sa Ma Sb Mb La Lb (La + Lb - 1) aSa aMa aSb aMb cSa cMa cSb cMb W' hn (by omega) (by omega) (by omega) (fun k hk => by have := hsb.range k (by omega); omega) (hSa.later h) (hMa.later h) (hSb.later h) (hMb.later h)).mono fun e w' ⟨a, b, c, d, h1, h2, h3, _, h5⟩ => ⟨a, b, c, d, h1, h2, h3, h5⟩
  have hwL : wrap64 (La + Lb) = La + Lb := wrap_mid (by omega) (by omega)
  have hwM : wrap64 (La + Lb - 1) = La + Lb - 1 := wrap_mid (by omega) (by omega)
  subst hy
  have t1 : (x == -1) = false := by rw [beq_eq_false_iff_ne]; exact hx
  have H0 := Lib.hid ((((HH.start w).alloc #[.slice aSa Sa.length cSa, .slice aMa Ma.length cMa, .int .i64 La] 24 rfl rfl).alloc #[.slice aSb Sb.length cSb, .slice aMb Mb.length cMb, .int .i64 Lb] 24 (b := w.heap.size + 1) (by simp) rfl).alloc #[.slice none 0 0, .slice none 0 0, .int .i64 0] 24 (b := w.heap.size + 2) (by simp) rfl)
  clear hsa hsb hva hvb hSa hMa hSb hMb hma hmb hfa hfb hpa hpb hx
  generalize uniM Ma Mb = V at *
  generalize Sa ++ Sb = T at *
  generalize Sa.length = na at *
  generalize Sb.length = nb at *
  generalize Ma.length = ma at *
  generalize Mb.length = mb at *
  go_enter Try.func32, Try.ntmps32
  go_wp2_with fail
  refine (HVa.out _ H0.out.below).mono ?_
  rintro e w1 ⟨rfl, hb⟩
  have H1 := Lib.hid (H0.out.call hb)
  clear hb H0 HVa
  have k00 := H1.out.cell (k := 0) (i := 0) rfl rfl
  have k01 := H1.out.cell (k := 0) (i := 1) rfl rfl
  have k02 := H1.out.cell (k := 0) (i := 2) rfl rfl
  have k10 := H1.out.cell (k := 1) (i := 0) rfl rfl
  have k11 := H1.out.cell (k := 1) (i := 1) rfl rfl
  have k12 := H1.out.cell (k := 1) (i := 2) rfl rfl
  have k20 := H1.out.cell (k := 2) (i := 0) rfl rfl
  have k21 := H1.out.cell (k := 2) (i := 1) rfl rfl
  have k22 := H1.out.cell (k := 2) (i := 2) rfl rfl
  go_wp2_with fail
  clear k00 k01 k02 k10 k11 k12 k20 k21 k22
  refine (HVb.out _ H1.out.below).mono ?_
  rintro e w2 ⟨rfl, hb⟩
  have H2 := Lib.hid (H1.out.call hb)
  clear hb H1 HVb
  have k00 := H2.out.cell (k := 0) (i := 0) rfl rfl
  have k01 := H2.out.cell (k := 0) (i := 1) rfl rfl
  have k02 := H2.out.cell (k := 0) (i := 2) rfl rfl
  have k10 := H2.out.cell (k := 1) (i := 0) rfl rfl
  have k11 := H2.out.cell (k := 1) (i := 1) rfl rfl
  have k12 := H2.out.cell (k := 1) (i := 2) rfl rfl
  have k20 := H2.out.cell (k := 2) (i := 0) rfl rfl
  have k21 := H2.out.cell (k := 2) (i := 1) rfl rfl
  have k22 := H2.out.cell (k := 2) (i := 2) rfl rfl
  go_wp2_with fail
  clear k00 k01 k02 k10 k11 k12 k20 k21 k22
  refine (HEa.out _ H2.out.below).mono ?_
  rintro e w3 ⟨rfl, hb⟩
  have H3 := Lib.hid (H2.out.call hb)
  clear hb H2 HEa
  have k00 := H3.out.cell (k := 0) (i := 0) rfl rfl
  have k01 := H3.out.cell (k := 0) (i := 1) rfl rfl
  have k02 := H3.out.cell (k := 0) (i := 2) rfl rfl
  have k10 := H3.out.cell (k := 1) (i := 0) rfl rfl
  have k11 := H3.out.cell (k := 1) (i := 1) rfl rfl
  have k12 := H3.out.cell (k := 1) (i := 2) rfl rfl
  have k20 := H3.out.cell (k := 2) (i := 0) rfl rfl
  have k21 := H3.out.cell (k := 2) (i := 1) rfl rfl
  have k22 := H3.out.cell (k := 2) (i := 2) rfl rfl
  go_wp2_with fail
  clear k00 k01 k02 k10 k11 k12 k20 k21 k22
  refine (HEb.out _ H3.out.below).mono ?_
  rintro e w4 ⟨rfl, hb⟩
  have H4 := Lib.hid (H3.out.call hb)
  clear hb H3 HEb
  have k00 := H4.out.cell (k := 0) (i := 0) rfl rfl
  have k01 := H4.out.cell (k := 0) (i := 1) rfl rfl
  have k02 := H4.out.cell (k := 0) (i := 2) rfl rfl
  have k10 := H4.out.cell (k := 1) (i := 0) rfl rfl
  have k11 := H4.out.cell (k := 1) (i := 1) rfl rfl
  have k12 := H4.out.cell (k := 1) (i := 2) rfl rfl
  have k20 := H4.out.cell (k := 2) (i := 0) rfl rfl
  have k21 := H4.out.cell (k := 2) (i := 1) rfl rfl
  have k22 := H4.out.cell (k := 2) (i := 2) rfl rfl
  go_wp2_with fail
  clear k00 k01 k02 k10 k11 k12 k20 k21 k22
  refine (HB.out _ H4.out.below).mono ?_
  rintro e w5 ⟨a5, b5, c5, d5, rfl, ho1, ho2, hb⟩
  have H5 := Lib.hid (H4.out.call hb)
  have HO1 := Lib.hid (ho1.mono H4.out.below.size)
  have HO2 := Lib.hid (ho2.mono H4.out.below.size)
  clear ho1 ho2
  clear hb H4 
  have k00 := H5.out.cell (k := 0) (i := 0) rfl rfl
  have k01 := H5.out.cell (k := 0) (i := 1) rfl rfl
  have k02 := H5.out.cell (k := 0) (i := 2) rfl rfl
  have k10 := H5.out.cell (k := 1) (i := 0) rfl rfl
  have k11 := H5.out.cell (k := 1) (i := 1) rfl rfl
  have k12 := H5.out.cell (k := 1) (i := 2) rfl rfl
  have k20 := H5.out.cell (k := 2) (i := 0) rfl rfl
  have k21 := H5.out.cell (k := 2) (i := 1) rfl rfl
  have k22 := H5.out.cell (k := 2) (i := 2) rfl rfl
  have f20 := H5.out.frozen (k := 2) rfl 0
  have f21 := H5.out.frozen (k := 2) rfl 1
  have f22 := H5.out.frozen (k := 2) rfl 2
  have H9 := (((H5.out.set (k := 2) rfl 0 (.slice a5 (na + nb) c5)).set (k := 2) rfl 1 (.slice b5 (ma + mb) d5)).set (k := 2) rfl 2 (.int .i64 (La + Lb - 1)))
  have hF20 := H9.cell (k := 2) (i := 0) rfl rfl
  have hF21 := H9.cell (k := 2) (i := 1) rfl rfl
  have hF22 := H9.cell (k := 2) (i := 2) rfl rfl
  have Hfin := Lib.hid H9
  clear H9
  go_wp2_with fail
  refine bodyPost_ret (v := .tuple #[.agg #[.slice a5 (na + nb) c5, .slice b5 (ma + mb) d5, .int .i64 (La + Lb - 1)], .int .i64 0]) (by simp [results, Try.results32, go_sem, hF20, hF21, hF22]) rfl ?_
  have q1 := ((HO1.out.setOther (H5.out.row (k := 2) rfl) (by decide) 0 (.slice a5 (na + nb) c5)).setOther ((H5.out.set (k := 2) rfl 0 (.slice a5 (na + nb) c5)).row (k := 2) rfl) (by decide) 1 (.slice b5 (ma + mb) d5)).setOther (((H5.out.set (k := 2) rfl 0 (.slice a5 (na + nb) c5)).set (k := 2) rfl 1 (.slice b5 (ma + mb) d5)).row (k := 2) rfl) (by decide) 2 (.int .i64 (La + Lb - 1))
  have q2 := ((HO2.out.setOther (H5.out.row (k := 2) rfl) (by decide) 0 (.slice a5 (na + nb) c5)).setOther ((H5.out.set (k := 2) rfl 0 (.slice a5 (na + nb) c5)).row (k := 2) rfl) (by decide) 1 (.slice b5 (ma + mb) d5)).setOther (((H5.out.set (k := 2) rfl 0 (.slice a5 (na + nb) c5)).set (k := 2) rfl 1 (.slice b5 (ma + mb) d5)).row (k := 2) rfl) (by decide) 2 (.int .i64 (La + Lb - 1))
  exact ⟨_, _, _, _, rfl, q1, q2, Hfin.out.below⟩
end Go.Proofs.Ytmjoijfafachhaa
