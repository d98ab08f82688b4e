/- The closures of mirror.ReverseOne. -/
import Derived.Test.YtkopbcehfbmnmaaMoveW
namespace Go.Proofs.Ytkopbcehfbmnmaa
open Go Go.RowKit
set_option maxRecDepth 100000 in
theorem ro1_any (W : World) (bp bU n c x : Nat) (us : List Bool) (h1 : Row W bp 87 [.slice (some ⟨bU, 0, none⟩) n n]) (h2 : Row W bU 4 (bools us)) (hl : us.length = n) (hc : c < n) :
    Calls Try.prog 126 #[.int .i64 (c : Int), .int .i64 (x : Int), .pointer (some ⟨bp, 0, none⟩)] W fun e w' => e = .returned (.int .i64 (if bth us c = true then 2 else 0)) ∧ W = w' := by
  have hp := h1.cell 0
  simp only [List.getElem?_cons_zero] at hp
  have hu := h2.bool c (by omega)
  obtain ⟨r, hr⟩ : ∃ r : Int, r = if bth us c = true then 2 else 0 := ⟨_, rfl⟩
  rw [← hr]
  have Hr := Lib.hid hr
  clear h1 h2 hr
  by_cases hb : bth us c = true
  · rw [hb] at hu
    have hr2 : r = 2 := by rw [Hr.out, if_pos hb]
    clear hb Hr
    go_enter Try.func126, Try.ntmps126
    go_wp2_with fail
    go_ret
    subst hr2
    exact ⟨rfl, rfl⟩
  · have hb' : bth us c = false := by simpa using hb
    rw [hb'] at hu
    have hr2 : r = 0 := by rw [Hr.out, if_neg hb]
    clear hb hb' Hr
    go_enter Try.func126, Try.ntmps126
    go_wp2_with fail
    go_ret
    subst hr2
    exact ⟨rfl, rfl⟩
set_option maxRecDepth 100000 in
set_option maxHeartbeats 2000000 in
theorem ro2_any (W : World) (bp bq bU bO n c : Nat) (us os : List Bool) (h1 : Row W bp 87 [.slice (some ⟨bU, 0, none⟩) n n]) (h2 : Row W bU 4 (bools us)) (h3 : Row W bq 87 [.slice (some ⟨bO, 0, none⟩) n n]) (h4 : Row W bO 4 (bools os)) (hl : us.length = n) (hl2 : os.length = n) (hc : c < n) :
    Calls Try.prog 127 #[.int .i64 (c : Int), .pointer (some ⟨bp, 0, none⟩), .pointer (some ⟨bq, 0, none⟩)] W fun e w' => e = .returned (.int .i64 (if bth us c = bth os c then 1 else -1)) ∧ Below W.heap.size W w' := by
  have hp := h1.cell 0
  have hq := h3.cell 0
  simp only [List.getElem?_cons_zero] at hp hq
  have hu := h2.bool c (by omega)
  have ho := h4.bool c (by omega)
  clear h1 h2 h3 h4
  generalize bth us c = u at *
  generalize bth os c = o at *
  cases u <;> cases o <;> (
    go_enter Try.func127, Try.ntmps127
    go_wp2_with fail
    go_quiet (fail)
    have Hb := Lib.hid (below_drewNN (Below.refl W.heap.size W) nq)
    go_wp2_with fail
    go_ret
    exact ⟨rfl, Hb.out⟩)
end Go.Proofs.Ytkopbcehfbmnmaa
