/- The walk of operate of law06. -/
import Derived.Test.YtkopbcehfbmnmaaMirFW
import Derived.Test.YtkopbcehfbmnmaaSwitchW
import Derived.Test.YtkopbcehfbmnmaaROneW
import Derived.Test.YtkopbcehfbmnmaaMirB
import Derived.Test.YtkopbcehfbmnmaaHeap
namespace Go.Proofs.Ytkopbcehfbmnmaa
open Go Go.RowKit
theorem row_ne' {w : World} {b b' : Nat} {E E' : TypeId} {vs vs' : List Value} (h : Row w b E vs) (h' : Row w b' E' vs') (hE : E ≠ E') : b ≠ b' := fun e => by
  rw [e] at h
  unfold Row at h h'
  rw [h] at h'
  simp only [Option.some.injEq, Obj.cells.injEq] at h'
  exact hE h'.2.1
/-- The slice holds these numbers and is nil-like or a whole block. -/
def RowAt (w : World) (a : Option Addr) (xs : List Int) : Prop := xs = [] ∨ ∃ b, a = some ⟨b, 0, none⟩ ∧ Row w b 3 (ints xs)
theorem RowAt.at {w : World} {a : Option Addr} {xs : List Int} (h : RowAt w a xs) : IntsAt w a xs := by
  rcases h with rfl | ⟨b, rfl, h⟩
  · exact IntsAt.nil _ _
  · exact h.at
theorem RowAt.set {w : World} {a : Option Addr} {xs : List Int} (h : RowAt w a xs) {q E : Nat} {vs : List Value} (hq : Row w q E vs) (hE : 3 ≠ E) (i : Nat) (u : Value) : RowAt (w.setCell ⟨q, i, none⟩ u) a xs := by
  rcases h with rfl | ⟨b, rfl, h⟩
  · exact .inl rfl
  · exact .inr ⟨b, rfl, h.setOther _ _ (row_ne' h hq hE)⟩
theorem RowAt.later {w w' : World} {a : Option Addr} {xs : List Int} (h : RowAt w a xs) (hb : Below w.heap.size w w') : RowAt w' a xs := by
  rcases h with rfl | ⟨b, rfl, h⟩
  · exact .inl rfl
  · exact .inr ⟨b, rfl, h.later hb h.lt⟩
theorem RowAt.alloc {w : World} {a : Option Addr} {xs : List Int} (h : RowAt w a xs) (o : Obj) : RowAt (w.alloc o) a xs := h.later ((Below.refl _ _).alloc (Nat.le_refl _) _)
theorem RowAt.box {w : World} {a : Option Addr} {xs : List Int} (h : RowAt w a xs) {q : Nat} {x0 x1 x2 : Value} (hq : Row w q 24 [x0, x1, x2]) (u0 u1 u2 : Value) : RowAt (((w.setCell ⟨q, 0, none⟩ u0).setCell ⟨q, 1, none⟩ u1).setCell ⟨q, 2, none⟩ u2) a xs :=
  ((h.set hq (by decide) 0 u0).set (hq.set 0 u0) (by decide) 1 u1).set ((hq.set 0 u0).set 1 u1) (by decide) 2 u2
/-- What operate returns. -/
def OpR (w : World) (S M S' M' : List Int) (L : Int) (e : Ending) (w' : World) : Prop :=
  ∃ (a b : Option Addr) (c d : Nat), e = .returned (.tuple #[.agg #[.slice a S.length c, .slice b M.length d, .int .i64 L], .bool true]) ∧ RowAt w' a S' ∧ RowAt w' b M' ∧ Below w.heap.size w w'
set_option maxRecDepth 100000 in
set_option maxHeartbeats 16000000 in
theorem oper0 (S M : List Int) (L : Int) (aS aM : Option Addr) (cS cM : Nat) (k n : Nat) (w : World) (hv : vldB S M L = true) (hkd : k % 5 = 0) (hS : IntsAt w aS S) (hM : IntsAt w aM M) :
    Calls Try.prog 69 #[.agg #[.slice aS S.length cS, .slice aM M.length cM, .int .i64 L], .int .i64 (k : Int), .int .i64 (n : Int)] w (OpR w S M (mulS S (swS fun _ => true)) (mvL (trn (swB S fun _ => true)) M) L) := by
  have hk1 : (k : Int) % 5 = 0 := by omega
  have hk2 : (k : Int).tmod 5 = 0 := by rw [Int.tmod_eq_emod_of_nonneg (by omega)]; exact hk1
  obtain ⟨W, hW⟩ : ∃ W, W = ((w.alloc (.cells #[.slice aS S.length cS, .slice aM M.length cM, .int .i64 L] 24)).alloc (.cells #[.slice none 0 0, .slice none 0 0, .int .i64 0] 24)) := ⟨_, rfl⟩
  have h0 : HH w W [(w.heap.size, rowO 24 [.slice aS S.length cS, .slice aM M.length cM, .int .i64 L]), (w.heap.size + 1, rowO 24 [.slice none 0 0, .slice none 0 0, .int .i64 0])] [] := by rw [hW]; exact (((HH.start w).alloc #[.slice aS S.length cS, .slice aM M.length cM, .int .i64 L] 24 rfl rfl).alloc #[.slice none 0 0, .slice none 0 0, .int .i64 0] 24 (by simp) rfl)
  have H0 := Lib.hid h0
  have HC : Hid (∀ W', Below w.heap.size w W' → Calls Try.prog 43 #[.agg #[.slice aS S.length cS, .slice aM M.length cM, .int .i64 L]] W' fun e w' => ∃ bS bM : Nat, e = .returned (.tuple #[.agg #[.slice (some ⟨bS, 0, none⟩) S.length S.length, .slice (some ⟨bM, 0, none⟩) M.length M.length, .int .i64 L], .int .i64 0]) ∧ Row w' bS 3 (ints (mulS S (swS fun _ => true))) ∧ Row w' bM 3 (ints (mvL (trn (swB S fun _ => true)) M)) ∧ Below W'.heap.size W' w') := Lib.hid fun W' hW' => mirrorF_row S M L aS aM cS cM W' hv (hS.later hW') (hM.later hW')
  clear hv hS hM h0 hkd
  go_enter Try.func69, Try.ntmps69
  go_wp2_with fail
  rw [← hW]
  clear hW
  have hc0 := H0.out.cell (k := 0) (i := 0) rfl rfl
  have hc1 := H0.out.cell (k := 0) (i := 1) rfl rfl
  have hc2 := H0.out.cell (k := 0) (i := 2) rfl rfl
  go_wp2_with fail
  refine (HC.out W H0.out.below).mono ?_
  rintro e w1 ⟨bS, bM, rfl, hi1, hj1, hb1⟩
  have H1 := Lib.hid (H0.out.call hb1)
  have HI1 := Lib.hid (And.intro hi1 hj1)
  clear hb1 H0 hc0 hc1 hc2 hi1 hj1
  have hd0 := H1.out.cell (k := 0) (i := 0) rfl rfl
  have hf0 := H1.out.frozen (k := 0) rfl 0
  have hd1 := H1.out.cell (k := 0) (i := 1) rfl rfl
  have hf1 := H1.out.frozen (k := 0) rfl 1
  have hd2 := H1.out.cell (k := 0) (i := 2) rfl rfl
  have hf2 := H1.out.frozen (k := 0) rfl 2
  have H5 : Hid (HH w (((w1.setCell ⟨w.heap.size, 0, none⟩ (.slice (some ⟨bS, 0, none⟩) S.length S.length)).setCell ⟨w.heap.size, 1, none⟩ (.slice (some ⟨bM, 0, none⟩) M.length M.length)).setCell ⟨w.heap.size, 2, none⟩ (.int .i64 L)) [(w.heap.size, rowO 24 [.slice (some ⟨bS, 0, none⟩) S.length S.length, .slice (some ⟨bM, 0, none⟩) M.length M.length, .int .i64 L]), (w.heap.size + 1, rowO 24 [.slice none 0 0, .slice none 0 0, .int .i64 0])] []) := Lib.hid (((H1.out.set (k := 0) rfl 0 _).set (k := 0) rfl 1 _).set (k := 0) rfl 2 _)
  have he0 := H5.out.cell (k := 0) (i := 0) rfl rfl
  have hg0 := H5.out.cell (k := 1) (i := 0) rfl rfl
  have hh0 := H5.out.frozen (k := 1) rfl 0
  have he1 := H5.out.cell (k := 0) (i := 1) rfl rfl
  have hg1 := H5.out.cell (k := 1) (i := 1) rfl rfl
  have hh1 := H5.out.frozen (k := 1) rfl 1
  have he2 := H5.out.cell (k := 0) (i := 2) rfl rfl
  have hg2 := H5.out.cell (k := 1) (i := 2) rfl rfl
  have hh2 := H5.out.frozen (k := 1) rfl 2
  have H6 : Hid (HH w ((((((w1.setCell ⟨w.heap.size, 0, none⟩ (.slice (some ⟨bS, 0, none⟩) S.length S.length)).setCell ⟨w.heap.size, 1, none⟩ (.slice (some ⟨bM, 0, none⟩) M.length M.length)).setCell ⟨w.heap.size, 2, none⟩ (.int .i64 L)).setCell ⟨w.heap.size + 1, 0, none⟩ (.slice (some ⟨bS, 0, none⟩) S.length S.length)).setCell ⟨w.heap.size + 1, 1, none⟩ (.slice (some ⟨bM, 0, none⟩) M.length M.length)).setCell ⟨w.heap.size + 1, 2, none⟩ (.int .i64 L)) [(w.heap.size, rowO 24 [.slice (some ⟨bS, 0, none⟩) S.length S.length, .slice (some ⟨bM, 0, none⟩) M.length M.length, .int .i64 L]), (w.heap.size + 1, rowO 24 [.slice (some ⟨bS, 0, none⟩) S.length S.length, .slice (some ⟨bM, 0, none⟩) M.length M.length, .int .i64 L])] []) := Lib.hid (((H5.out.set (k := 1) rfl 0 _).set (k := 1) rfl 1 _).set (k := 1) rfl 2 _)
  have hF0 := H6.out.cell (k := 1) (i := 0) rfl rfl
  have hF1 := H6.out.cell (k := 1) (i := 1) rfl rfl
  have hF2 := H6.out.cell (k := 1) (i := 2) rfl rfl
  have HR := Lib.hid (And.intro (((show RowAt w1 (some ⟨bS, 0, none⟩) _ from .inr ⟨bS, rfl, HI1.out.1⟩).box (H1.out.row (k := 0) rfl) (.slice (some ⟨bS, 0, none⟩) S.length S.length) (.slice (some ⟨bM, 0, none⟩) M.length M.length) (.int .i64 L)).box (H5.out.row (k := 1) rfl) (.slice (some ⟨bS, 0, none⟩) S.length S.length) (.slice (some ⟨bM, 0, none⟩) M.length M.length) (.int .i64 L)) (((show RowAt w1 (some ⟨bM, 0, none⟩) _ from .inr ⟨bM, rfl, HI1.out.2⟩).box (H1.out.row (k := 0) rfl) (.slice (some ⟨bS, 0, none⟩) S.length S.length) (.slice (some ⟨bM, 0, none⟩) M.length M.length) (.int .i64 L)).box (H5.out.row (k := 1) rfl) (.slice (some ⟨bS, 0, none⟩) S.length S.length) (.slice (some ⟨bM, 0, none⟩) M.length M.length) (.int .i64 L)))
  go_wp2_with fail
  refine bodyPost_ret (v := .tuple #[.agg #[.slice (some ⟨bS, 0, none⟩) S.length S.length, .slice (some ⟨bM, 0, none⟩) M.length M.length, .int .i64 L], .bool true]) (by simp [results, Try.results69, go_sem, hF0, hF1, hF2]) rfl ?_
  exact ⟨_, _, _, _, rfl, HR.out.1, HR.out.2, H6.out.below⟩
set_option maxRecDepth 100000 in
set_option maxHeartbeats 16000000 in
theorem oper1 (S M : List Int) (L : Int) (aS aM : Option Addr) (cS cM : Nat) (k n : Nat) (w : World) (hv : vldB S M L = true) (hkd : k % 5 = 1) (hS : IntsAt w aS S) (hM : IntsAt w aM M) :
    Calls Try.prog 69 #[.agg #[.slice aS S.length cS, .slice aM M.length cM, .int .i64 L], .int .i64 (k : Int), .int .i64 (n : Int)] w (OpR w S M (mulS S fun _ => -1) (mvL rfl4 M) L) := by
  have hk1 : (k : Int) % 5 = 1 := by omega
  have hk2 : (k : Int).tmod 5 = 1 := by rw [Int.tmod_eq_emod_of_nonneg (by omega)]; exact hk1
  obtain ⟨W, hW⟩ : ∃ W, W = ((w.alloc (.cells #[.slice aS S.length cS, .slice aM M.length cM, .int .i64 L] 24)).alloc (.cells #[.slice none 0 0, .slice none 0 0, .int .i64 0] 24)) := ⟨_, rfl⟩
  have h0 : HH w W [(w.heap.size, rowO 24 [.slice aS S.length cS, .slice aM M.length cM, .int .i64 L]), (w.heap.size + 1, rowO 24 [.slice none 0 0, .slice none 0 0, .int .i64 0])] [] := by rw [hW]; exact (((HH.start w).alloc #[.slice aS S.length cS, .slice aM M.length cM, .int .i64 L] 24 rfl rfl).alloc #[.slice none 0 0, .slice none 0 0, .int .i64 0] 24 (by simp) rfl)
  have H0 := Lib.hid h0
  have HC : Hid (∀ W', Below w.heap.size w W' → Calls Try.prog 44 #[.agg #[.slice aS S.length cS, .slice aM M.length cM, .int .i64 L]] W' fun e w' => ∃ bS bM : Nat, e = .returned (.tuple #[.agg #[.slice (some ⟨bS, 0, none⟩) S.length S.length, .slice (some ⟨bM, 0, none⟩) M.length M.length, .int .i64 L], .int .i64 0]) ∧ Row w' bS 3 (ints (mulS S fun _ => -1)) ∧ Row w' bM 3 (ints (mvL rfl4 M)) ∧ Below W'.heap.size W' w') := Lib.hid fun W' hW' => reflectF_row S M L aS aM cS cM W' hv (hS.later hW') (hM.later hW')
  clear hv hS hM h0 hkd
  go_enter Try.func69, Try.ntmps69
  go_wp2_with fail
  rw [← hW]
  clear hW
  have hc0 := H0.out.cell (k := 0) (i := 0) rfl rfl
  have hc1 := H0.out.cell (k := 0) (i := 1) rfl rfl
  have hc2 := H0.out.cell (k := 0) (i := 2) rfl rfl
  go_wp2_with fail
  refine (HC.out W H0.out.below).mono ?_
  rintro e w1 ⟨bS, bM, rfl, hi1, hj1, hb1⟩
  have H1 := Lib.hid (H0.out.call hb1)
  have HI1 := Lib.hid (And.intro hi1 hj1)
  clear hb1 H0 hc0 hc1 hc2 hi1 hj1
  have hd0 := H1.out.cell (k := 0) (i := 0) rfl rfl
  have hf0 := H1.out.frozen (k := 0) rfl 0
  have hd1 := H1.out.cell (k := 0) (i := 1) rfl rfl
  have hf1 := H1.out.frozen (k := 0) rfl 1
  have hd2 := H1.out.cell (k := 0) (i := 2) rfl rfl
  have hf2 := H1.out.frozen (k := 0) rfl 2
  have H5 : Hid (HH w (((w1.setCell ⟨w.heap.size, 0, none⟩ (.slice (some ⟨bS, 0, none⟩) S.length S.length)).setCell ⟨w.heap.size, 1, none⟩ (.slice (some ⟨bM, 0, none⟩) M.length M.length)).setCell ⟨w.heap.size, 2, none⟩ (.int .i64 L)) [(w.heap.size, rowO 24 [.slice (some ⟨bS, 0, none⟩) S.length S.length, .slice (some ⟨bM, 0, none⟩) M.length M.length, .int .i64 L]), (w.heap.size + 1, rowO 24 [.slice none 0 0, .slice none 0 0, .int .i64 0])] []) := Lib.hid (((H1.out.set (k := 0) rfl 0 _).set (k := 0) rfl 1 _).set (k := 0) rfl 2 _)
  have he0 := H5.out.cell (k := 0) (i := 0) rfl rfl
  have hg0 := H5.out.cell (k := 1) (i := 0) rfl rfl
  have hh0 := H5.out.frozen (k := 1) rfl 0
  have he1 := H5.out.cell (k := 0) (i := 1) rfl rfl
  have hg1 := H5.out.cell (k := 1) (i := 1) rfl rfl
  have hh1 := H5.out.frozen (k := 1) rfl 1
  have he2 := H5.out.cell (k := 0) (i := 2) rfl rfl
  have hg2 := H5.out.cell (k := 1) (i := 2) rfl rfl
  have hh2 := H5.out.frozen (k := 1) rfl 2
  have H6 : Hid (HH w ((((((w1.setCell ⟨w.heap.size, 0, none⟩ (.slice (some ⟨bS, 0, none⟩) S.length S.length)).setCell ⟨w.heap.size, 1, none⟩ (.slice (some ⟨bM, 0, none⟩) M.length M.length)).setCell ⟨w.heap.size, 2, none⟩ (.int .i64 L)).setCell ⟨w.heap.size + 1, 0, none⟩ (.slice (some ⟨bS, 0, none⟩) S.length S.length)).setCell ⟨w.heap.size + 1, 1, none⟩ (.slice (some ⟨bM, 0, none⟩) M.length M.length)).setCell ⟨w.heap.size + 1, 2, none⟩ (.int .i64 L)) [(w.heap.size, rowO 24 [.slice (some ⟨bS, 0, none⟩) S.length S.length, .slice (some ⟨bM, 0, none⟩) M.length M.length, .int .i64 L]), (w.heap.size + 1, rowO 24 [.slice (some ⟨bS, 0, none⟩) S.length S.length, .slice (some ⟨bM, 0, none⟩) M.length M.length, .int .i64 L])] []) := Lib.hid (((H5.out.set (k := 1) rfl 0 _).set (k := 1) rfl 1 _).set (k := 1) rfl 2 _)
  have hF0 := H6.out.cell (k := 1) (i := 0) rfl rfl
  have hF1 := H6.out.cell (k := 1) (i := 1) rfl rfl
  have hF2 := H6.out.cell (k := 1) (i := 2) rfl rfl
  have HR := Lib.hid (And.intro (((show RowAt w1 (some ⟨bS, 0, none⟩) _ from .inr ⟨bS, rfl, HI1.out.1⟩).box (H1.out.row (k := 0) rfl) (.slice (some ⟨bS, 0, none⟩) S.length S.length) (.slice (some ⟨bM, 0, none⟩) M.length M.length) (.int .i64 L)).box (H5.out.row (k := 1) rfl) (.slice (some ⟨bS, 0, none⟩) S.length S.length) (.slice (some ⟨bM, 0, none⟩) M.length M.length) (.int .i64 L)) (((show RowAt w1 (some ⟨bM, 0, none⟩) _ from .inr ⟨bM, rfl, HI1.out.2⟩).box (H1.out.row (k := 0) rfl) (.slice (some ⟨bS, 0, none⟩) S.length S.length) (.slice (some ⟨bM, 0, none⟩) M.length M.length) (.int .i64 L)).box (H5.out.row (k := 1) rfl) (.slice (some ⟨bS, 0, none⟩) S.length S.length) (.slice (some ⟨bM, 0, none⟩) M.length M.length) (.int .i64 L)))
  go_wp2_with fail
  refine bodyPost_ret (v := .tuple #[.agg #[.slice (some ⟨bS, 0, none⟩) S.length S.length, .slice (some ⟨bM, 0, none⟩) M.length M.length, .int .i64 L], .bool true]) (by simp [results, Try.results69, go_sem, hF0, hF1, hF2]) rfl ?_
  exact ⟨_, _, _, _, rfl, HR.out.1, HR.out.2, H6.out.below⟩
set_option maxRecDepth 100000 in
set_option maxHeartbeats 16000000 in
theorem oper2 (S M : List Int) (L : Int) (aS aM : Option Addr) (cS cM : Nat) (k n : Nat) (w : World) (hv : vldB S M L = true) (hkd : k % 5 = 2) (hS : IntsAt w aS S) (hM : IntsAt w aM M) :
    Calls Try.prog 69 #[.agg #[.slice aS S.length cS, .slice aM M.length cM, .int .i64 L], .int .i64 (k : Int), .int .i64 (n : Int)] w (OpR w S M (mulS S fun _ => 1) (mvL (trn fun _ => 2) M) L) := by
  have hk1 : (k : Int) % 5 = 2 := by omega
  have hk2 : (k : Int).tmod 5 = 2 := by rw [Int.tmod_eq_emod_of_nonneg (by omega)]; exact hk1
  obtain ⟨W, hW⟩ : ∃ W, W = ((w.alloc (.cells #[.slice aS S.length cS, .slice aM M.length cM, .int .i64 L] 24)).alloc (.cells #[.slice none 0 0, .slice none 0 0, .int .i64 0] 24)) := ⟨_, rfl⟩
  have h0 : HH w W [(w.heap.size, rowO 24 [.slice aS S.length cS, .slice aM M.length cM, .int .i64 L]), (w.heap.size + 1, rowO 24 [.slice none 0 0, .slice none 0 0, .int .i64 0])] [] := by rw [hW]; exact (((HH.start w).alloc #[.slice aS S.length cS, .slice aM M.length cM, .int .i64 L] 24 rfl rfl).alloc #[.slice none 0 0, .slice none 0 0, .int .i64 0] 24 (by simp) rfl)
  have H0 := Lib.hid h0
  have HC : Hid (∀ W', Below w.heap.size w W' → Calls Try.prog 45 #[.agg #[.slice aS S.length cS, .slice aM M.length cM, .int .i64 L]] W' fun e w' => ∃ bS bM : Nat, e = .returned (.tuple #[.agg #[.slice (some ⟨bS, 0, none⟩) S.length S.length, .slice (some ⟨bM, 0, none⟩) M.length M.length, .int .i64 L], .int .i64 0]) ∧ Row w' bS 3 (ints (mulS S fun _ => 1)) ∧ Row w' bM 3 (ints (mvL (trn fun _ => 2) M)) ∧ Below W'.heap.size W' w') := Lib.hid fun W' hW' => reverseF_row S M L aS aM cS cM W' hv (hS.later hW') (hM.later hW')
  clear hv hS hM h0 hkd
  go_enter Try.func69, Try.ntmps69
  go_wp2_with fail
  rw [← hW]
  clear hW
  have hc0 := H0.out.cell (k := 0) (i := 0) rfl rfl
  have hc1 := H0.out.cell (k := 0) (i := 1) rfl rfl
  have hc2 := H0.out.cell (k := 0) (i := 2) rfl rfl
  go_wp2_with fail
  refine (HC.out W H0.out.below).mono ?_
  rintro e w1 ⟨bS, bM, rfl, hi1, hj1, hb1⟩
  have H1 := Lib.hid (H0.out.call hb1)
  have HI1 := Lib.hid (And.intro hi1 hj1)
  clear hb1 H0 hc0 hc1 hc2 hi1 hj1
  have hd0 := H1.out.cell (k := 0) (i := 0) rfl rfl
  have hf0 := H1.out.frozen (k := 0) rfl 0
  have hd1 := H1.out.cell (k := 0) (i := 1) rfl rfl
  have hf1 := H1.out.frozen (k := 0) rfl 1
  have hd2 := H1.out.cell (k := 0) (i := 2) rfl rfl
  have hf2 := H1.out.frozen (k := 0) rfl 2
  have H5 : Hid (HH w (((w1.setCell ⟨w.heap.size, 0, none⟩ (.slice (some ⟨bS, 0, none⟩) S.length S.length)).setCell ⟨w.heap.size, 1, none⟩ (.slice (some ⟨bM, 0, none⟩) M.length M.length)).setCell ⟨w.heap.size, 2, none⟩ (.int .i64 L)) [(w.heap.size, rowO 24 [.slice (some ⟨bS, 0, none⟩) S.length S.length, .slice (some ⟨bM, 0, none⟩) M.length M.length, .int .i64 L]), (w.heap.size + 1, rowO 24 [.slice none 0 0, .slice none 0 0, .int .i64 0])] []) := Lib.hid (((H1.out.set (k := 0) rfl 0 _).set (k := 0) rfl 1 _).set (k := 0) rfl 2 _)
  have he0 := H5.out.cell (k := 0) (i := 0) rfl rfl
  have hg0 := H5.out.cell (k := 1) (i := 0) rfl rfl
  have hh0 := H5.out.frozen (k := 1) rfl 0
  have he1 := H5.out.cell (k := 0) (i := 1) rfl rfl
  have hg1 := H5.out.cell (k := 1) (i := 1) rfl rfl
  have hh1 := H5.out.frozen (k := 1) rfl 1
  have he2 := H5.out.cell (k := 0) (i := 2) rfl rfl
  have hg2 := H5.out.cell (k := 1) (i := 2) rfl rfl
  have hh2 := H5.out.frozen (k := 1) rfl 2
  have H6 : Hid (HH w ((((((w1.setCell ⟨w.heap.size, 0, none⟩ (.slice (some ⟨bS, 0, none⟩) S.length S.length)).setCell ⟨w.heap.size, 1, none⟩ (.slice (some ⟨bM, 0, none⟩) M.length M.length)).setCell ⟨w.heap.size, 2, none⟩ (.int .i64 L)).setCell ⟨w.heap.size + 1, 0, none⟩ (.slice (some ⟨bS, 0, none⟩) S.length S.length)).setCell ⟨w.heap.size + 1, 1, none⟩ (.slice (some ⟨bM, 0, none⟩) M.length M.length)).setCell ⟨w.heap.size + 1, 2, none⟩ (.int .i64 L)) [(w.heap.size, rowO 24 [.slice (some ⟨bS, 0, none⟩) S.length S.length, .slice (some ⟨bM, 0, none⟩) M.length M.length, .int .i64 L]), (w.heap.size + 1, rowO 24 [.slice (some ⟨bS, 0, none⟩) S.length S.length, .slice (some ⟨bM, 0, none⟩) M.length M.length, .int .i64 L])] []) := Lib.hid (((H5.out.set (k := 1) rfl 0 _).set (k := 1) rfl 1 _).set (k := 1) rfl 2 _)
  have hF0 := H6.out.cell (k := 1) (i := 0) rfl rfl
  have hF1 := H6.out.cell (k := 1) (i := 1) rfl rfl
  have hF2 := H6.out.cell (k := 1) (i := 2) rfl rfl
  have HR := Lib.hid (And.intro (((show RowAt w1 (some ⟨bS, 0, none⟩) _ from .inr ⟨bS, rfl, HI1.out.1⟩).box (H1.out.row (k := 0) rfl) (.slice (some ⟨bS, 0, none⟩) S.length S.length) (.slice (some ⟨bM, 0, none⟩) M.length M.length) (.int .i64 L)).box (H5.out.row (k := 1) rfl) (.slice (some ⟨bS, 0, none⟩) S.length S.length) (.slice (some ⟨bM, 0, none⟩) M.length M.length) (.int .i64 L)) (((show RowAt w1 (some ⟨bM, 0, none⟩) _ from .inr ⟨bM, rfl, HI1.out.2⟩).box (H1.out.row (k := 0) rfl) (.slice (some ⟨bS, 0, none⟩) S.length S.length) (.slice (some ⟨bM, 0, none⟩) M.length M.length) (.int .i64 L)).box (H5.out.row (k := 1) rfl) (.slice (some ⟨bS, 0, none⟩) S.length S.length) (.slice (some ⟨bM, 0, none⟩) M.length M.length) (.int .i64 L)))
  go_wp2_with fail
  refine bodyPost_ret (v := .tuple #[.agg #[.slice (some ⟨bS, 0, none⟩) S.length S.length, .slice (some ⟨bM, 0, none⟩) M.length M.length, .int .i64 L], .bool true]) (by simp [results, Try.results69, go_sem, hF0, hF1, hF2]) rfl ?_
  exact ⟨_, _, _, _, rfl, HR.out.1, HR.out.2, H6.out.below⟩
set_option maxRecDepth 100000 in
set_option maxHeartbeats 16000000 in
theorem oper3z (S M : List Int) (L : Int) (aS aM : Option Addr) (cS cM : Nat) (k n : Nat) (w : World) (hv : vldB S M L = true) (hkd : k % 5 = 3) (hs : S.length = 0)  :
    Calls Try.prog 69 #[.agg #[.slice aS S.length cS, .slice aM M.length cM, .int .i64 L], .int .i64 (k : Int), .int .i64 (n : Int)] w (OpR w S M (mulS S (swS fun c => decide (c = n % S.length))) (mvL (trn (swB S fun c => decide (c = n % S.length))) M) L) := by
  have hk1 : (k : Int) % 5 = 3 := by omega
  have hk2 : (k : Int).tmod 5 = 3 := by rw [Int.tmod_eq_emod_of_nonneg (by omega)]; exact hk1
  obtain ⟨W, hW⟩ : ∃ W, W = ((w.alloc (.cells #[.slice aS S.length cS, .slice aM M.length cM, .int .i64 L] 24)).alloc (.cells #[.slice none 0 0, .slice none 0 0, .int .i64 0] 24)) := ⟨_, rfl⟩
  have h0 : HH w W [(w.heap.size, rowO 24 [.slice aS S.length cS, .slice aM M.length cM, .int .i64 L]), (w.heap.size + 1, rowO 24 [.slice none 0 0, .slice none 0 0, .int .i64 0])] [] := by rw [hW]; exact (((HH.start w).alloc #[.slice aS S.length cS, .slice aM M.length cM, .int .i64 L] 24 rfl rfl).alloc #[.slice none 0 0, .slice none 0 0, .int .i64 0] 24 (by simp) rfl)
  have H0 := Lib.hid h0
  have HN : Hid (mulS S (swS fun c => decide (c = n % S.length)) = [] ∧ mvL (trn (swB S fun c => decide (c = n % S.length))) M = []) := Lib.hid (by
    have hm := (vldB_shape hv).len
    constructor
    · apply List.length_eq_zero_iff.1; rw [mulS_len]; exact hs
    · apply List.length_eq_zero_iff.1; rw [mvL_len]; omega)
  have hz1 : decide (S.length = 0) = true := decide_eq_true hs
  have hz2 : ((S.length : Int) == 0) = true := by rw [beq_iff_eq]; omega
  have hz3 : (S.length == 0) = true := by rw [beq_iff_eq]; exact hs
  clear hv h0 hkd hs
  go_enter Try.func69, Try.ntmps69
  go_upto_region 1 with fail
  rw [← hW]
  clear hW
  have hc0 := H0.out.cell (k := 0) (i := 0) rfl rfl
  have hc1 := H0.out.cell (k := 0) (i := 1) rfl rfl
  have hc2 := H0.out.cell (k := 0) (i := 2) rfl rfl
  have hg0 := H0.out.cell (k := 1) (i := 0) rfl rfl
  have hh0 := H0.out.frozen (k := 1) rfl 0
  have hg1 := H0.out.cell (k := 1) (i := 1) rfl rfl
  have hh1 := H0.out.frozen (k := 1) rfl 1
  have hg2 := H0.out.cell (k := 1) (i := 2) rfl rfl
  have hh2 := H0.out.frozen (k := 1) rfl 2
  have H6 : Hid (HH w (((W.setCell ⟨w.heap.size + 1, 0, none⟩ (.slice aS S.length cS)).setCell ⟨w.heap.size + 1, 1, none⟩ (.slice aM M.length cM)).setCell ⟨w.heap.size + 1, 2, none⟩ (.int .i64 L)) [(w.heap.size, rowO 24 [.slice aS S.length cS, .slice aM M.length cM, .int .i64 L]), (w.heap.size + 1, rowO 24 [.slice aS S.length cS, .slice aM M.length cM, .int .i64 L])] []) := Lib.hid (((H0.out.set (k := 1) rfl 0 _).set (k := 1) rfl 1 _).set (k := 1) rfl 2 _)
  have hF0 := H6.out.cell (k := 1) (i := 0) rfl rfl
  have hF1 := H6.out.cell (k := 1) (i := 1) rfl rfl
  have hF2 := H6.out.cell (k := 1) (i := 2) rfl rfl
  go_wp2_with fail
  refine bodyPost_ret (v := .tuple #[.agg #[.slice aS S.length cS, .slice aM M.length cM, .int .i64 L], .bool true]) (by simp [results, Try.results69, go_sem, hF0, hF1, hF2]) rfl ?_
  exact ⟨_, _, _, _, rfl, .inl HN.out.1, .inl HN.out.2, H6.out.below⟩
set_option maxRecDepth 100000 in
set_option maxHeartbeats 16000000 in
theorem oper3y (S M : List Int) (L : Int) (aS aM : Option Addr) (cS cM : Nat) (k n : Nat) (w : World) (hv : vldB S M L = true) (hkd : k % 5 = 3) (hs : 0 < S.length) (hn : n ≤ 255) (hS : IntsAt w aS S) (hM : IntsAt w aM M) :
    Calls Try.prog 69 #[.agg #[.slice aS S.length cS, .slice aM M.length cM, .int .i64 L], .int .i64 (k : Int), .int .i64 (n : Int)] w (OpR w S M (mulS S (swS fun c => decide (c = n % S.length))) (mvL (trn (swB S fun c => decide (c = n % S.length))) M) L) := by
  have hk1 : (k : Int) % 5 = 3 := by omega
  have hk2 : (k : Int).tmod 5 = 3 := by rw [Int.tmod_eq_emod_of_nonneg (by omega)]; exact hk1
  obtain ⟨W, hW⟩ : ∃ W, W = ((w.alloc (.cells #[.slice aS S.length cS, .slice aM M.length cM, .int .i64 L] 24)).alloc (.cells #[.slice none 0 0, .slice none 0 0, .int .i64 0] 24)) := ⟨_, rfl⟩
  have h0 : HH w W [(w.heap.size, rowO 24 [.slice aS S.length cS, .slice aM M.length cM, .int .i64 L]), (w.heap.size + 1, rowO 24 [.slice none 0 0, .slice none 0 0, .int .i64 0])] [] := by rw [hW]; exact (((HH.start w).alloc #[.slice aS S.length cS, .slice aM M.length cM, .int .i64 L] 24 rfl rfl).alloc #[.slice none 0 0, .slice none 0 0, .int .i64 0] 24 (by simp) rfl)
  have H0 := Lib.hid h0
  have hS64 := (vldB_shape hv).few
  have Hd0 := Lib.hid h0.drew
  have HC : Hid (Calls Try.prog 52 #[.agg #[.slice aS S.length cS, .slice aM M.length cM, .int .i64 L], .int .i64 ((n % S.length : Nat) : Int)] W.drew fun e w' => ∃ bS bM : Nat, e = .returned (.tuple #[.agg #[.slice (some ⟨bS, 0, none⟩) S.length S.length, .slice (some ⟨bM, 0, none⟩) M.length M.length, .int .i64 L], .int .i64 0]) ∧ Row w' bS 3 (ints (mulS S (swS fun c => decide (c = n % S.length)))) ∧ Row w' bM 3 (ints (mvL (trn (swB S fun c => decide (c = n % S.length))) M)) ∧ Below W.drew.heap.size W.drew w') :=
    Lib.hid (switch_row S M L aS aM cS cM (n % S.length) W.drew hv (Nat.mod_lt _ hs) (hS.later Hd0.out.below) (hM.later Hd0.out.below))
  have hmd2 : (n : Int) % (S.length : Int) = ((n % S.length : Nat) : Int) := by push_cast; rfl
  have hmd1 : (n : Int).tmod (S.length : Int) = ((n % S.length : Nat) : Int) := by
    rw [← hmd2]; exact Int.tmod_eq_emod_of_nonneg (by omega)
  have hn0 : ¬ S.length = 0 := by omega
  have hn1 : decide (S.length = 0) = false := decide_eq_false hn0
  have hn2 : ((S.length : Int) == 0) = false := by rw [beq_eq_false_iff_ne]; omega
  have hn3 : (S.length == 0) = false := by rw [beq_eq_false_iff_ne]; exact hn0
  generalize (((n % S.length : Nat)) : Int) = md at *
  clear hv hS hM h0 hkd
  go_enter Try.func69, Try.ntmps69
  go_upto_region 1 with fail
  rw [← hW]
  clear hW
  have hc0 := H0.out.cell (k := 0) (i := 0) rfl rfl
  have hc1 := H0.out.cell (k := 0) (i := 1) rfl rfl
  have hc2 := H0.out.cell (k := 0) (i := 2) rfl rfl
  go_wp2_with fail
  have hc0 := Hd0.out.cell (k := 0) (i := 0) rfl rfl
  have hc1 := Hd0.out.cell (k := 0) (i := 1) rfl rfl
  have hc2 := Hd0.out.cell (k := 0) (i := 2) rfl rfl
  go_region_with ((with_reducible refine HC.out.mono ?_); rintro e w1 ⟨bS, bM, rfl, hi1, hj1, hb1⟩; have H1 := Lib.hid (Hd0.out.call hb1); have HI1 := Lib.hid (And.intro hi1 hj1); clear hb1 hi1 hj1 hc0 hc1 hc2; have hd0 := H1.out.cell (k := 0) (i := 0) rfl rfl; have hf0 := H1.out.frozen (k := 0) rfl 0; have hd1 := H1.out.cell (k := 0) (i := 1) rfl rfl; have hf1 := H1.out.frozen (k := 0) rfl 1; have hd2 := H1.out.cell (k := 0) (i := 2) rfl rfl; have hf2 := H1.out.frozen (k := 0) rfl 2; have H5 : Hid (HH w (((w1.setCell ⟨w.heap.size, 0, none⟩ (.slice (some ⟨bS, 0, none⟩) S.length S.length)).setCell ⟨w.heap.size, 1, none⟩ (.slice (some ⟨bM, 0, none⟩) M.length M.length)).setCell ⟨w.heap.size, 2, none⟩ (.int .i64 L)) [(w.heap.size, rowO 24 [.slice (some ⟨bS, 0, none⟩) S.length S.length, .slice (some ⟨bM, 0, none⟩) M.length M.length, .int .i64 L]), (w.heap.size + 1, rowO 24 [.slice none 0 0, .slice none 0 0, .int .i64 0])] []) := Lib.hid (((H1.out.set (k := 0) rfl 0 _).set (k := 0) rfl 1 _).set (k := 0) rfl 2 _); have he0 := H5.out.cell (k := 0) (i := 0) rfl rfl; have hg0 := H5.out.cell (k := 1) (i := 0) rfl rfl; have hh0 := H5.out.frozen (k := 1) rfl 0; have he1 := H5.out.cell (k := 0) (i := 1) rfl rfl; have hg1 := H5.out.cell (k := 1) (i := 1) rfl rfl; have hh1 := H5.out.frozen (k := 1) rfl 1; have he2 := H5.out.cell (k := 0) (i := 2) rfl rfl; have hg2 := H5.out.cell (k := 1) (i := 2) rfl rfl; have hh2 := H5.out.frozen (k := 1) rfl 2; have H6 : Hid (HH w ((((((w1.setCell ⟨w.heap.size, 0, none⟩ (.slice (some ⟨bS, 0, none⟩) S.length S.length)).setCell ⟨w.heap.size, 1, none⟩ (.slice (some ⟨bM, 0, none⟩) M.length M.length)).setCell ⟨w.heap.size, 2, none⟩ (.int .i64 L)).setCell ⟨w.heap.size + 1, 0, none⟩ (.slice (some ⟨bS, 0, none⟩) S.length S.length)).setCell ⟨w.heap.size + 1, 1, none⟩ (.slice (some ⟨bM, 0, none⟩) M.length M.length)).setCell ⟨w.heap.size + 1, 2, none⟩ (.int .i64 L)) [(w.heap.size, rowO 24 [.slice (some ⟨bS, 0, none⟩) S.length S.length, .slice (some ⟨bM, 0, none⟩) M.length M.length, .int .i64 L]), (w.heap.size + 1, rowO 24 [.slice (some ⟨bS, 0, none⟩) S.length S.length, .slice (some ⟨bM, 0, none⟩) M.length M.length, .int .i64 L])] []) := Lib.hid (((H5.out.set (k := 1) rfl 0 _).set (k := 1) rfl 1 _).set (k := 1) rfl 2 _); have hF0 := H6.out.cell (k := 1) (i := 0) rfl rfl; have hF1 := H6.out.cell (k := 1) (i := 1) rfl rfl; have hF2 := H6.out.cell (k := 1) (i := 2) rfl rfl; have HR := Lib.hid (And.intro (((show RowAt w1 (some ⟨bS, 0, none⟩) _ from .inr ⟨bS, rfl, HI1.out.1⟩).box (H1.out.row (k := 0) rfl) (.slice (some ⟨bS, 0, none⟩) S.length S.length) (.slice (some ⟨bM, 0, none⟩) M.length M.length) (.int .i64 L)).box (H5.out.row (k := 1) rfl) (.slice (some ⟨bS, 0, none⟩) S.length S.length) (.slice (some ⟨bM, 0, none⟩) M.length M.length) (.int .i64 L)) (((show RowAt w1 (some ⟨bM, 0, none⟩) _ from .inr ⟨bM, rfl, HI1.out.2⟩).box (H1.out.row (k := 0) rfl) (.slice (some ⟨bS, 0, none⟩) S.length S.length) (.slice (some ⟨bM, 0, none⟩) M.length M.length) (.int .i64 L)).box (H5.out.row (k := 1) rfl) (.slice (some ⟨bS, 0, none⟩) S.length S.length) (.slice (some ⟨bM, 0, none⟩) M.length M.length) (.int .i64 L))))
  all_goals
    go_wp2_with fail
    refine bodyPost_ret (v := .tuple #[.agg #[.slice (some ⟨bS, 0, none⟩) S.length S.length, .slice (some ⟨bM, 0, none⟩) M.length M.length, .int .i64 L], .bool true]) (by simp [results, Try.results69, go_sem, hF0, hF1, hF2]) rfl ?_
    exact ⟨_, _, _, _, rfl, HR.out.1, HR.out.2, H6.out.below⟩
end Go.Proofs.Ytkopbcehfbmnmaa
