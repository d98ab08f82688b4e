/- connect.Alternating. -/
import Derived.Test.YtmjoijfafachhaaAltP
import Derived.Test.YtmjoijfafachhaaHeap
import Derived.Test.YtmjoijfafachhaaPartW
namespace Go.Proofs.Ytmjoijfafachhaa
open Go Go.RowKit
set_option maxRecDepth 100000 in
set_option maxHeartbeats 2000000 in
theorem alternating_no (S M : List Int) (L : Int) (aS aM : Option Addr) (cS cM : Nat) (w : World) (hSl : S.length ≤ 1000000) (hMl : M.length ≤ 1000000) (hv : vldB S M L = false) (hS : IntsAt w aS S) (hM : IntsAt w aM M) :
    Calls Try.prog 37 #[.agg #[.slice aS S.length cS, .slice aM M.length cM, .int .i64 L]] w fun e w' => e = .returned (.bool false) ∧ Below w.heap.size w w' := by
  have HV : Hid (∀ W', Below w.heap.size w W' → Calls Try.prog 26 #[.agg #[.slice aS S.length cS, .slice aM M.length cM, .int .i64 L]] W' fun e w' => e = .returned (.bool false) ∧ Below W'.heap.size W' w') := Lib.hid fun W' h => by
    have g := valid_any S M L aS aM cS cM W' (by omega) (by omega) (hS.later h) (hM.later h)
    rw [hv] at g; exact g
  have H0 := Lib.hid ((HH.start w).alloc #[.slice aS S.length cS, .slice aM M.length cM, .int .i64 L] 24 rfl rfl)
  clear hS hM hv
  go_enter Try.func37, Try.ntmps37
  go_wp2_with fail
  refine (HV.out _ H0.out.below).mono ?_
  rintro e w1 ⟨rfl, hb⟩
  have H1 := Lib.hid (H0.out.call hb)
  clear hb H0 HV
  go_wp2_with fail
  go_ret
  exact ⟨rfl, H1.out.below⟩
set_option maxRecDepth 100000 in
set_option maxHeartbeats 2000000 in
theorem alternating_yes (S M : List Int) (L : Int) (aS aM : Option Addr) (cS cM : Nat) (w : World) (hv : vldB S M L = true) (hS : IntsAt w aS S) (hM : IntsAt w aM M) :
    Calls Try.prog 37 #[.agg #[.slice aS S.length cS, .slice aM M.length cM, .int .i64 L]] w fun e w' => e = .returned (.bool (altTo M (4 * S.length))) ∧ Below w.heap.size w w' := by
  have hs := vldB_shape hv
  have hfw := hs.few
  have hml := hs.len
  have HV : Hid (∀ W', Below w.heap.size w W' → Calls Try.prog 26 #[.agg #[.slice aS S.length cS, .slice aM M.length cM, .int .i64 L]] W' fun e w' => e = .returned (.bool true) ∧ Below W'.heap.size W' w') := Lib.hid fun W' h => by
    have g := valid_any S M L aS aM cS cM W' (by omega) (by omega) (hS.later h) (hM.later h)
    rw [hv] at g; exact g
  have HMt : Hid (∀ x, x < M.length → ∃ p : Nat, nth M x = (p : Int) ∧ mt M x = p ∧ p < 256) := Lib.hid fun x hx => by
    have := hs.range x (by omega)
    have := hs.mt_lt (x := x) (by omega)
    exact ⟨mt M x, by unfold mt; omega, rfl, by omega⟩
  have H0 := Lib.hid ((HH.start w).alloc #[.slice aS S.length cS, .slice aM M.length cM, .int .i64 L] 24 rfl rfl)
  have HM := Lib.hid hM
  have hM256 : M.length ≤ 256 := by omega
  rw [← hml]
  have Hfl : Hid (∀ i, i < M.length → altTo M (i + 1) = false → altTo M M.length = false) := Lib.hid fun i hi h => by
    unfold altTo at h ⊢
    rw [List.all_eq_false] at h ⊢
    obtain ⟨x, hx, g⟩ := h
    exact ⟨x, List.mem_range.2 (by have := List.mem_range.1 hx; omega), g⟩
  clear hS hM hv hs hml
  go_enter Try.func37, Try.ntmps37
  go_wp2_with fail
  refine (HV.out _ H0.out.below).mono ?_
  rintro e w1 ⟨rfl, hb⟩
  have H1 := Lib.hid (H0.out.call hb)
  clear hb H0 HV
  have k1 := H1.out.cell (k := 0) (i := 1) rfl rfl
  go_wp2_with fail
  clear k1
  go_loopg [11] M.length (fun g v wr => ∃ i : Nat, i ≤ M.length ∧ g = M.length - i ∧ v = .int .i64 i ∧ altTo M i = true ∧ HH w wr [(w.heap.size, rowO 24 [.slice aS S.length cS, .slice aM M.length cM, .int .i64 L])] [])
  case atStart => exact ⟨0, Nat.zero_le _, rfl, rfl, rfl, H1.out⟩
  case round =>
    obtain ⟨i, hi, rfl, rfl, ha, hh⟩ := hrel
    have Hh := Lib.hid hh
    have Ha := Lib.hid ha
    clear hh H1 ha
    by_cases hil : i < M.length
    · obtain ⟨p, hp, hpm, hp2⟩ := HMt.out i hil
      obtain ⟨bM, oM, rfl, _, hcM⟩ := (HM.out.later Hh.out.below).open (by omega)
      have m1 := hcM i hil
      rw [hp] at m1
      have Hsu := Lib.hid (altTo_succ M i)
      rw [hpm, Ha.out, Bool.true_and] at Hsu
      have HF := Lib.hid (Hfl.out i hil)
      clear hcM hp hpm
      by_cases hpar : i % 2 = p % 2
      · have e1 : ((i : Int).tmod 2 == (p : Int).tmod 2) = true := by rw [beq_iff_eq, Int.tmod_eq_emod_of_nonneg (by omega), Int.tmod_eq_emod_of_nonneg (by omega)]; omega
        have e2 : ((i : Int) % 2 == (p : Int) % 2) = true := by rw [beq_iff_eq]; omega
        have e3 : decide ((i : Int) % 2 = (p : Int) % 2) = true := decide_eq_true (by omega)
        have e4 : (i : Int) % 2 = (p : Int) % 2 := by omega
        have Hr : Hid (altTo M M.length = false) := Lib.hid (HF.out (by rw [Hsu.out]; exact decide_eq_false (fun h => h hpar)))
        clear HF Hsu hpar
        go_wp2_with fail
        go_ret
        exact ⟨ret_bool Hr.out.symm, Hh.out.below⟩
      · have e1 : ((i : Int).tmod 2 == (p : Int).tmod 2) = false := by rw [beq_eq_false_iff_ne, Int.tmod_eq_emod_of_nonneg (by omega), Int.tmod_eq_emod_of_nonneg (by omega)]; omega
        have e2 : ((i : Int) % 2 == (p : Int) % 2) = false := by rw [beq_eq_false_iff_ne]; omega
        have e3 : decide ((i : Int) % 2 = (p : Int) % 2) = false := decide_eq_false (by omega)
        have e4 : ¬ (i : Int) % 2 = (p : Int) % 2 := by omega
        have Hr : Hid (altTo M (i + 1) = true) := Lib.hid (by rw [Hsu.out]; exact decide_eq_true hpar)
        clear HF Hsu hpar
        go_wp2_with fail
        go_roundg (M.length - (i + 1))
        case measure => omega
        case rel => exact ⟨i + 1, by omega, rfl, by go_num, Hr.out, Hh.out⟩
    · obtain rfl : i = M.length := by omega
      go_wp2_with fail
      go_ret
      exact ⟨ret_bool Ha.out.symm, Hh.out.below⟩
end Go.Proofs.Ytmjoijfafachhaa
