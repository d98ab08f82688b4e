/- Plain law: a diagram that lies within another one: faces, parts, sphericity. No condition. -/
import Derived.Test.YtmjoijfafachhaaSmoothA
namespace Go.Proofs.Ytmjoijfafachhaa
open Go Go.RowKit
/-- The half-edge of the greater diagram. -/
def upE (e : Nat → Nat) (h : Nat) : Nat := 4 * e (h / 4) + h % 4
theorem upE_div (e : Nat → Nat) (h : Nat) : upE e h / 4 = e (h / 4) := by unfold upE; omega
theorem upE_mod (e : Nat → Nat) (h : Nat) : upE e h % 4 = h % 4 := by unfold upE; omega
theorem upE_tn (e : Nat → Nat) (h : Nat) (b : Int) : tn (upE e h) b = upE e (tn h b) := by
  have h1 : tn (upE e h) b = 4 * e (h / 4) + (((h % 4 : Nat) : Int) + b + 8).toNat % 4 := by
    unfold tn; rw [upE_div, upE_mod]
  have h2 : upE e (tn h b) = 4 * e (h / 4) + (((h % 4 : Nat) : Int) + b + 8).toNat % 4 := by
    show 4 * e (tn h b / 4) + tn h b % 4 = _
    rw [tn_div, tn_mod]
  rw [h1, h2]
/-- Crossing c of M' is crossing e c of M, with all its mates. -/
structure Emb (M' : List Int) (n' : Nat) (M : List Int) (n : Nat) (e : Nat → Nat) : Prop where
  lt : ∀ c, c < n' → e c < n
  inj : ∀ c d, c < n' → d < n' → e c = e d → c = d
  mate : ∀ h, h < 4 * n' → mt M (upE e h) = upE e (mt M' h)
namespace Emb
variable {M' M : List Int} {n' n : Nat} {e : Nat → Nat} (E : Emb M' n' M n e)
include E
theorem up_lt {h : Nat} (hh : h < 4 * n') : upE e h < 4 * n := by
  have h1 := upE_div e h
  have h2 := E.lt (h / 4) (by omega)
  omega
theorem up_inj {x y : Nat} (hx : x < 4 * n') (hy : y < 4 * n') (he : upE e x = upE e y) : x = y := by
  have h1 := upE_div e x
  have h2 := upE_div e y
  have h3 := upE_mod e x
  have h4 := upE_mod e y
  have h5 := E.inj (x / 4) (y / 4) (by omega) (by omega) (by rw [← h1, ← h2, he])
  rw [he] at h3
  omega
theorem face {h : Nat} (hh : h < 4 * n') : fc M (upE e h) = upE e (fc M' h) := by
  show tn (mt M (upE e h)) (-1) = upE e (tn (mt M' h) (-1))
  rw [E.mate h hh, upE_tn]
theorem iter_up (hm' : Mates M' n') {h : Nat} (hh : h < 4 * n') (k : Nat) : iter (fc M) k (upE e h) = upE e (iter (fc M') k h) := by
  induction k with
  | zero => rfl
  | succ k ih => rw [iter_succ, iter_succ, ih, E.face (iter_lt _ _ hm'.inj.lt k h hh)]
theorem orb_iff (hm' : Mates M' n') {x y : Nat} (hx : x < 4 * n') (hy : y < 4 * n') : OnOrb (fc M) (upE e x) (upE e y) ↔ OnOrb (fc M') x y := by
  constructor
  · rintro ⟨k, hk⟩
    rw [E.iter_up hm' hx] at hk
    exact ⟨k, E.up_inj (iter_lt _ _ hm'.inj.lt k x hx) hy hk⟩
  · rintro ⟨k, rfl⟩
    exact ⟨k, E.iter_up hm' hx k⟩
theorem conn_to (hm' : Mates M' n') {c d : Nat} (hc : c < n') (h : Conn M' c d) : Conn M (e c) (e d) := fun Q h0 hs =>
  (h (fun x => x < n' ∧ Q (e x)) ⟨hc, h0⟩ fun x y ⟨hx, hq⟩ hxy => by
    obtain ⟨s, hs4, rfl⟩ := hxy
    have hl : 4 * x + s < 4 * n' := by omega
    refine ⟨by have := hm'.lt hl; unfold mt at this; omega, hs (e x) _ hq ⟨s, hs4, ?_⟩⟩
    have h1 := E.mate (4 * x + s) hl
    have h2 : upE e (4 * x + s) = 4 * e x + s := by unfold upE; rw [show (4 * x + s) / 4 = x by omega]; omega
    rw [h2] at h1
    show mt M (4 * e x + s) / 4 = _
    rw [h1, upE_div]; rfl).2
theorem conn_back (hm' : Mates M' n') {c z : Nat} (hc : c < n') (h : Conn M (e c) z) : ∃ d, d < n' ∧ e d = z ∧ Conn M' c d :=
  h (fun z => ∃ d, d < n' ∧ e d = z ∧ Conn M' c d) ⟨c, hc, rfl, Conn.refl M' c⟩ fun x y ⟨d, hd, hx, hcd⟩ hxy => by
    obtain ⟨s, hs4, rfl⟩ := hxy
    subst hx
    have hl : 4 * d + s < 4 * n' := by omega
    have h1 := E.mate (4 * d + s) hl
    have h2 : upE e (4 * d + s) = 4 * e d + s := by unfold upE; rw [show (4 * d + s) / 4 = d by omega]; omega
    rw [h2] at h1
    have h3 : mt M (4 * e d + s) / 4 = e (mt M' (4 * d + s) / 4) := by rw [h1, upE_div]
    refine ⟨mt M' (4 * d + s) / 4, by have := hm'.lt hl; omega, h3.symm, hcd.step ⟨s, hs4, rfl⟩⟩
theorem conn_iff (hm' : Mates M' n') {c d : Nat} (hc : c < n') (hd : d < n') : Conn M (e c) (e d) ↔ Conn M' c d := by
  refine ⟨fun h => ?_, E.conn_to hm' hc⟩
  obtain ⟨d', h1, h2, h3⟩ := E.conn_back hm' hc h
  rwa [E.inj d' d h1 hd h2] at h3
theorem VC_eq (hm' : Mates M' n') {c : Nat} (hc : c < n') : VC M' n' c = VC M n (e c) := by
  classical
  refine Nat.le_antisymm ?_ ?_
  · refine cnt_inj e (fun x hx hp => ⟨E.lt x hx, ?_⟩) (fun x y hx hy _ _ he => E.inj x y hx hy he)
    rw [decide_eq_true_eq] at hp ⊢
    exact E.conn_to hm' hc hp
  · have hex : ∀ z, ∃ d, Conn M (e c) z → d < n' ∧ e d = z ∧ Conn M' c d := fun z => by
      by_cases h : Conn M (e c) z
      · obtain ⟨d, hd⟩ := E.conn_back hm' hc h
        exact ⟨d, fun _ => hd⟩
      · exact ⟨0, fun g => absurd g h⟩
    obtain ⟨ch, hch⟩ := Classical.axiomOfChoice hex
    refine cnt_inj ch (fun x _ hp => ?_) (fun x y _ _ hpx hpy he => ?_)
    · rw [decide_eq_true_eq] at hp ⊢
      exact ⟨(hch x hp).1, (hch x hp).2.2⟩
    · rw [decide_eq_true_eq] at hpx hpy
      rw [← (hch x hpx).2.1, ← (hch y hpy).2.1, he]
theorem FC_eq (hm' : Mates M' n') (hm : Mates M n) {c : Nat} (hc : c < n') : FC M' n' c = FC M n (e c) := by
  classical
  have e1 : FC M' n' c = nc (OnOrb (fc M')) (fun h => decide (Conn M' c (h / 4))) (4 * n') := nc_orb hm'.inj _
  have e2 : FC M n (e c) = nc (OnOrb (fc M)) (fun h => decide (Conn M (e c) (h / 4))) (4 * n) := nc_orb hm.inj _
  rw [e1, e2]
  have keep : ∀ (N : Nat) (f : Nat → Nat) (P : Nat → Bool), (∀ x, x < N → f x < N) → (∀ x, x < N → P (f x) = P x) → ∀ x y, x < N → OnOrb f x y → P x = true → P y = true := by
    rintro N f P hl hp x y hx ⟨k, rfl⟩ h
    induction k with
    | zero => exact h
    | succ k ih => rw [iter_succ, hp _ (iter_lt f N hl k x hx)]; exact ih
  refine Nat.le_antisymm ?_ ?_
  · refine nc_le (orb_eqv hm'.inj) (orb_eqv hm.inj) (fun x y hx _ ho hp => keep _ _ (fun h => decide (Conn M (e c) (h / 4))) hm.inj.lt (fun x hx => decide_eq_decide.2 (hm.conn_fc hx)) x y hx ho hp) (upE e) (fun x hx hp => ⟨E.up_lt hx, ?_⟩) (fun x y hx hy _ _ ho => (E.orb_iff hm' hx hy).1 ho)
    rw [decide_eq_true_eq] at hp ⊢
    rw [upE_div]
    exact E.conn_to hm' hc hp
  · have hex : ∀ z, ∃ x, z < 4 * n → Conn M (e c) (z / 4) → x < 4 * n' ∧ upE e x = z ∧ Conn M' c (x / 4) := fun z => by
      by_cases h : Conn M (e c) (z / 4)
      · obtain ⟨d, h1, h2, h3⟩ := E.conn_back hm' hc h
        refine ⟨4 * d + z % 4, fun _ _ => ⟨by omega, ?_, by rw [show (4 * d + z % 4) / 4 = d by omega]; exact h3⟩⟩
        unfold upE
        rw [show (4 * d + z % 4) / 4 = d by omega, h2]; omega
      · exact ⟨0, fun _ g => absurd g h⟩
    obtain ⟨ch, hch⟩ := Classical.axiomOfChoice hex
    refine nc_le (orb_eqv hm.inj) (orb_eqv hm'.inj) (fun x y hx _ ho hp => keep _ _ (fun h => decide (Conn M' c (h / 4))) hm'.inj.lt (fun x hx => decide_eq_decide.2 (hm'.conn_fc hx)) x y hx ho hp) ch (fun x hx hp => ?_) (fun x y hx hy hpx hpy ho => ?_)
    · rw [decide_eq_true_eq] at hp ⊢
      exact ⟨(hch x hx hp).1, (hch x hx hp).2.2⟩
    · rw [decide_eq_true_eq] at hpx hpy
      obtain ⟨a1, a2, _⟩ := hch x hx hpx
      obtain ⟨b1, b2, _⟩ := hch y hy hpy
      rw [← a2, ← b2]
      exact (E.orb_iff hm' a1 b1).2 ho
/-- Parts of a sphere are spheres. -/
theorem sph (hm' : Mates M' n') (hm : Mates M n) (hs : Sph M n) : Sph M' n' := fun c hc => by
  rw [E.FC_eq hm' hm hc, E.VC_eq hm' hc]
  exact hs (e c) (E.lt c hc)
/-- What lies within a diagram in order is in order. -/
theorem mates (hm : Mates M n) (hr : ∀ h, h < 4 * n' → 0 ≤ nth M' h ∧ nth M' h < 4 * (n' : Int)) : Mates M' n' := by
  have hlt : ∀ h, h < 4 * n' → mt M' h < 4 * n' := fun h hh => by have := hr h hh; unfold mt; omega
  refine ⟨⟨hr, fun h hh => ?_⟩, fun x hx he => ?_⟩
  · have h1 := E.mate h hh
    have h2 := E.mate (mt M' h) (hlt h hh)
    rw [← h1, hm.inv (E.up_lt hh)] at h2
    have h3 := E.up_inj hh (hlt _ (hlt h hh)) h2
    have h4 := hr _ (hlt h hh)
    unfold mt at h3 h4
    omega
  · have h1 := E.mate x hx
    have he : mt M' x = x := he
    rw [he] at h1
    exact hm.ne _ (E.up_lt hx) h1
end Emb
/-- A diagram whose crossings all lie in spheres is a sphere. -/
theorem sph_cover {M : List Int} {n : Nat} (hm : Mates M n) (h : ∀ c, c < n → ∃ (M' : List Int) (n' : Nat) (e : Nat → Nat) (d : Nat), Emb M' n' M n e ∧ Mates M' n' ∧ Sph M' n' ∧ d < n' ∧ e d = c) : Sph M n := fun c hc => by
  obtain ⟨M', n', e, d, E, hm', hs, hd, rfl⟩ := h c hc
  rw [← E.FC_eq hm' hm hd, ← E.VC_eq hm' hd]
  exact hs d hd
end Go.Proofs.Ytmjoijfafachhaa
