/- Plain law: on a sphere each even set of edges bounds: the count. -/
import Derived.Test.YtkopbcehfbmnmaaPlanar2
namespace Go.Proofs.Ytkopbcehfbmnmaa
open Go Go.RowKit
section
variable {M : List Int} {n c0 : Nat} (hm : Mates M n)
include hm
/-- A label that is the same along edges and around crossings is the same all over the part. -/
theorem part_const (hc0 : c0 < n) (g : Nat → Nat) (h1 : ∀ x, x < 4 * n → UU M c0 x = true → g x = g (mt M x)) (h2 : ∀ x, x < 4 * n → UU M c0 x = true → g x = g (tn x (-1))) :
    ∀ x, x < 4 * n → UU M c0 x = true → g x = g (4 * c0) := by
  have around : ∀ c s, c < n → Conn M c0 c → s < 4 → g (4 * c + s) = g (4 * c) := by
    intro c s hc hcc hs
    have hu : ∀ s, s < 4 → UU M c0 (4 * c + s) = true := fun s hs => UU_iff.2 (by rw [show (4 * c + s) / 4 = c from by omega]; exact hcc)
    have a1 := h2 (4 * c + 1) (by omega) (hu 1 (by omega))
    have a2 := h2 (4 * c + 2) (by omega) (hu 2 (by omega))
    have a3 := h2 (4 * c + 3) (by omega) (hu 3 (by omega))
    rw [show tn (4 * c + 1) (-1) = 4 * c from by unfold tn; omega] at a1
    rw [show tn (4 * c + 2) (-1) = 4 * c + 1 from by unfold tn; omega] at a2
    rw [show tn (4 * c + 3) (-1) = 4 * c + 2 from by unfold tn; omega] at a3
    have : s = 0 ∨ s = 1 ∨ s = 2 ∨ s = 3 := by omega
    rcases this with rfl | rfl | rfl | rfl
    · rfl
    · exact a1
    · rw [a2, a1]
    · rw [a3, a2, a1]
  have all : ∀ c, Conn M c0 c → c < n ∧ Conn M c0 c ∧ g (4 * c) = g (4 * c0) := by
    intro c hc
    refine hc (fun c => c < n ∧ Conn M c0 c ∧ g (4 * c) = g (4 * c0)) ⟨hc0, Conn.refl M c0, rfl⟩ ?_
    rintro a b ⟨k1, k2, k3⟩ hab
    refine ⟨hm.ok.adj_lt k1 hab, k2.step hab, ?_⟩
    obtain ⟨s, hs, he⟩ := hab
    have hx : 4 * a + s < 4 * n := by omega
    have hu : UU M c0 (4 * a + s) = true := UU_iff.2 (by rw [show (4 * a + s) / 4 = a from by omega]; exact k2)
    have e1 := h1 _ hx hu
    have e2 := around a s k1 k2 hs
    have hb : mt M (4 * a + s) / 4 = b := he
    have hlt := hm.lt hx
    have e3 := around b (mt M (4 * a + s) % 4) (by omega) (k2.step ⟨s, hs, he⟩) (by omega)
    rw [show 4 * b + mt M (4 * a + s) % 4 = mt M (4 * a + s) from by omega] at e3
    rw [← e3, ← e1, e2, k3]
  intro x hx hu
  rw [UU_iff] at hu
  have h3 := around (x / 4) (x % 4) (by omega) hu (by omega)
  rw [show 4 * (x / 4) + x % 4 = x from by omega] at h3
  rw [h3, (all _ hu).2.2]
/-- The dual forest has at least as many edges as there are faces, less one. -/
theorem dual_count (hc0 : c0 < n) : FC M n c0 ≤ cnt (isTree (mt M) (lf M n) (UU M c0)) (4 * n) + 1 := by
  have hr := roots_count (m := mt M) (v := lf M n) (E := UU M c0) (W := fun y => decide (y < 4 * n) && UU M c0 y && decide (lf M n y = y)) (N := 4 * n) (B := 4 * n) (fun k hk hE => by
    have f1 : ∀ z, z < 4 * n → UU M c0 z = true → (decide (lf M n z < 4 * n) && UU M c0 (lf M n z) && decide (lf M n (lf M n z) = lf M n z)) = true := fun z hz hu => by
      simp only [Bool.and_eq_true, decide_eq_true_eq]
      exact ⟨⟨hm.face_lt hz, UU_iff.2 ((hm.conn_face hz).2 (UU_iff.1 hu))⟩, fl_idem hm.inj hm.per hz⟩
    exact ⟨f1 k hk hE, f1 _ (hm.lt hk) (by rw [UU_mt hm hk]; exact hE)⟩) (fun y hy => by
    simp only [Bool.and_eq_true, decide_eq_true_eq] at hy; exact hy.1.1) (4 * n) (Nat.le_refl _)
  have hF : cnt (fun y => decide (y < 4 * n) && UU M c0 y && decide (lf M n y = y)) (4 * n) = FC M n c0 := by
    show _ = cnt _ _
    refine cnt_congr fun y hy => ?_
    rw [Bool.eq_iff_iff]
    simp only [Bool.and_eq_true, decide_eq_true_eq]
    rw [fl_least hm.inj hm.per hy, UU_iff]
    exact ⟨fun h => ⟨h.2, h.1.2⟩, fun h => ⟨⟨hy, h.2⟩, h.1⟩⟩
  have hconst := part_const hm hc0 (fun x => labn (mt M) (lf M n) (UU M c0) (4 * n) (lf M n x))
    (fun x hx hu => labn_mono (k := x + 1) (by omega) (labn_joined hu))
    (fun x hx hu => by rw [← hm.face_mt hx]; exact labn_mono (k := x + 1) (by omega) (labn_joined hu))
  have h1 := cnt_one (N := 4 * n) (p := fun y => (decide (y < 4 * n) && UU M c0 y && decide (lf M n y = y)) && decide (labn (mt M) (lf M n) (UU M c0) (4 * n) y = y)) (fun x y hx hy hp hq => by
    simp only [Bool.and_eq_true, decide_eq_true_eq] at hp hq
    have a := hconst x hx hp.1.1.2
    have b := hconst y hy hq.1.1.2
    rw [hp.1.2, hp.2] at a
    rw [hq.1.2, hq.2] at b
    rw [a, b])
  omega
end
end Go.Proofs.Ytkopbcehfbmnmaa
