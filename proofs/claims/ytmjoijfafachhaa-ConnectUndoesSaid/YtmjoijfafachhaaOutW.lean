/- The walks of diagram.outgoing, Turn, Opposite and of the reference's Turn, Out. -/
import Derived.Test.YtmjoijfafachhaaProg
import Derived.Test.YtmjoijfafachhaaPlainA
namespace Go.Proofs.Ytmjoijfafachhaa
open Go Go.RowKit
set_option maxHeartbeats 1000000 in
theorem outgoing_any (S M : List Int) (L : Int) (aS aM : Option Addr) (cS cM : Nat) (h : Nat) (w : World) (hh : h < 4 * S.length) (hb : S.length ≤ 1000000) (hS : IntsAt w aS S) :
    Calls Try.prog 66 #[.agg #[.slice aS S.length cS, .slice aM M.length cM, .int .i64 L], .int .i64 (h : Int)] w fun e w' => e = .returned (.bool (outB S h)) ∧ Below w.heap.size w w' := by
  obtain ⟨b, off, rfl, hbl, hc⟩ := hS.open (by omega)
  have hc1 := hc (h / 4) (by omega)
  have hlt : (h : Int) / 4 < (S.length : Int) := by omega
  clear hc hS
  have hB : ∀ o, Below w.heap.size w (w.alloc o) := fun o => (Below.refl _ _).alloc (Nat.le_refl _) o
  rcases (show h % 4 = 0 ∨ h % 4 = 1 ∨ h % 4 = 2 ∨ h % 4 = 3 by omega) with e | e | e | e
  · have hv := outB_0 S h e
    have e' : ((h : Int) % 4) = 0 := by omega
    clear e
    have t1 : (((h : Int) % 4) == 1) = false := by rw [e']; rfl
    have t2 : (((h : Int) % 4) == 2) = false := by rw [e']; rfl
    have t3 : (((h : Int) % 4) == 3) = false := by rw [e']; rfl
    clear e'
    go_enter Try.func66, Try.ntmps66
    go_wp2
    go_ret
    exact ⟨ret_bool hv.symm, hB _⟩
  · have hv := Lib.hid (outB_1 S h e)
    have e' : ((h : Int) % 4) = 1 := by omega
    clear e
    have t1 : (((h : Int) % 4) == 1) = true := by rw [e']; rfl
    clear e'
    go_enter Try.func66, Try.ntmps66
    go_wp2
    go_ret
    exact ⟨ret_bool hv.out.symm, hB _⟩
  · have hv := outB_2 S h e
    have e' : ((h : Int) % 4) = 2 := by omega
    clear e
    have t1 : (((h : Int) % 4) == 1) = false := by rw [e']; rfl
    have t2 : (((h : Int) % 4) == 2) = true := by rw [e']; rfl
    clear e'
    go_enter Try.func66, Try.ntmps66
    go_wp2
    go_ret
    exact ⟨ret_bool hv.symm, hB _⟩
  · have hv := Lib.hid (outB_3 S h e)
    have e' : ((h : Int) % 4) = 3 := by omega
    clear e
    have t1 : (((h : Int) % 4) == 1) = false := by rw [e']; rfl
    have t2 : (((h : Int) % 4) == 2) = false := by rw [e']; rfl
    have t3 : (((h : Int) % 4) == 3) = true := by rw [e']; rfl
    clear e'
    go_enter Try.func66, Try.ntmps66
    go_wp2
    go_ret
    exact ⟨ret_bool hv.out.symm, hB _⟩
theorem turn_any (h : Nat) (b : Int) (w : World) (h1 : h ≤ 1000000000) (b0 : -8 ≤ b) (b1 : b ≤ 8) :
    Calls Try.prog 85 #[.int .i64 (h : Int), .int .i64 b] w fun e w' => e = .returned (.int .i64 ((tn h b : Nat) : Int)) ∧ w = w' := by
  obtain ⟨t0, t1, hd⟩ := tmod_four b b0 b1
  have e := Lib.hid (turn_num h b _ b0 t0 t1 hd)
  clear hd
  go_enter Try.func85, Try.ntmps85
  go_wp2
  go_ret
  exact ⟨ret_int (by simpa using e.out), rfl⟩
theorem opposite_any (h : Nat) (w : World) (h1 : h ≤ 1000000000) :
    Calls Try.prog 79 #[.int .i64 (h : Int)] w fun e w' => e = .returned (.int .i64 ((tn h 2 : Nat) : Int)) ∧ w = w' := by
  go_enter Try.func79, Try.ntmps79
  go_wp2_with (go_at_call 85; refine (turn_any _ _ _ h1 (by omega) (by omega)).mono ?_; rintro e w' ⟨rfl, rfl⟩)
  go_ret
  exact ⟨rfl, rfl⟩
theorem rturn_any (h : Nat) (b : Int) (w : World) (h1 : h ≤ 1000000000) (b0 : -8 ≤ b) (b1 : b ≤ 8) :
    Calls Try.prog 89 #[.int .i64 (h : Int), .int .i64 b] w fun e w' => e = .returned (.int .i64 ((tn h b : Nat) : Int)) ∧ w = w' := by
  obtain ⟨t0, t1, hd⟩ := tmod_four b b0 b1
  obtain ⟨t2, t3, _⟩ := tmod_four ((h : Int) % 4 + b.tmod 4) (by omega) (by omega)
  have e := Lib.hid (turn_num' h b _ b0 t0 t1 hd)
  clear hd
  go_enter Try.func89, Try.ntmps89
  go_wp2
  go_ret

  exact ⟨ret_int (by simpa using e.out), rfl⟩
end Go.Proofs.Ytmjoijfafachhaa
