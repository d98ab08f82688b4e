/- Plain laws: a diagram within another one, edges crossed, unions, the parts as lists, cuts. -/
import Derived.WalkKit
import Derived.WalkSpells
import Derived.WalkLawsBesides
import Derived.Deep.AppendSrc
import Derived.Deep.LoopGhost
import Derived.Deep.QuietTactic
import Derived.Deep.RegionWith
import Derived.Deep.DeepMust
import Derived.Deep.DeepFit
import Derived.BigQuiet
import Derived.Lib.Hide
import Derived.Outline
import Derived.Test.YtmjoijfafachhaaGreatDoorProg
import Derived.Test.YtmjoijfafachhaaGreatDoorZuAa
import Derived.Test.YtmjoijfafachhaaGreatDoorZuAb
import Derived.Test.YtmjoijfafachhaaGreatDoorZuAc
import Derived.Test.YtmjoijfafachhaaGreatDoorZuAd
import Derived.Test.YtmjoijfafachhaaGreatDoorZuAe
import Derived.Test.YtmjoijfafachhaaGreatDoorZuAf
import Derived.Test.YtmjoijfafachhaaGreatDoorZuAg
namespace Go.Proofs.YtmjoijfafachhaaGreatDoor
open Go Go.RowKit
/-- The half-edge of the greater diagram. -/
def upE (e : Nat → Nat) (h : Nat) : Nat := 4 * e (h / 4) + h % 4
theorem upE_div (e : Nat → Nat) (h : Nat) : upE e h / 4 = e (h / 4) := by unfold upE; omega
theorem upE_mod (e : Nat → Nat) (h : Nat) : upE e h % 4 = h % 4 := by unfold upE; omega
theorem upE_tn (e : Nat → Nat) (h : Nat) (b : Int) : tn (upE e h) b = upE e (tn h b) := by
  have h1 : tn (upE e h) b = 4 * e (h / 4) + (((h % 4 : Nat) : Int) + b + 8).toNat % 4 := by
    unfold tn; rw [upE_div, upE_mod]
  have h2 : upE e (tn h b) = 4 * e (h / 4) + (((h % 4 : Nat) : Int) + b + 8).toNat % 4 := by
    show 4 * e (tn h b / 4) + tn h b % 4 = _
    rw [tn_div, tn_mod]
  rw [h1, h2]
/-- Crossing c of M' is crossing e c of M, with all its mates. -/
structure Emb (M' : List Int) (n' : Nat) (M : List Int) (n : Nat) (e : Nat → Nat) : Prop where
  lt : ∀ c, c < n' → e c < n
  inj : ∀ c d, c < n' → d < n' → e c = e d → c = d
  mate : ∀ h, h < 4 * n' → mt M (upE e h) = upE e (mt M' h)
namespace Emb
variable {M' M : List Int} {n' n : Nat} {e : Nat → Nat} (E : Emb M' n' M n e)
include E
theorem up_lt {h : Nat} (hh : h < 4 * n') : upE e h < 4 * n := by
  have h1 := upE_div e h
  have h2 := E.lt (h / 4) (by omega)
  omega
theorem up_inj {x y : Nat} (hx : x < 4 * n') (hy : y < 4 * n') (he : upE e x = upE e y) : x = y := by
  have h1 := upE_div e x
  have h2 := upE_div e y
  have h3 := upE_mod e x
  have h4 := upE_mod e y
  have h5 := E.inj (x / 4) (y / 4) (by omega) (by omega) (by rw [← h1, ← h2, he])
  rw [he] at h3
  omega
theorem face {h : Nat} (hh : h < 4 * n') : fc M (upE e h) = upE e (fc M' h) := by
  show tn (mt M (upE e h)) (-1) = upE e (tn (mt M' h) (-1))
  rw [E.mate h hh, upE_tn]
theorem iter_up (hm' : Mates M' n') {h : Nat} (hh : h < 4 * n') (k : Nat) : iter (fc M) k (upE e h) = upE e (iter (fc M') k h) := by
  induction k with
  | zero => rfl
  | succ k ih => rw [iter_succ, iter_succ, ih, E.face (iter_lt _ _ hm'.inj.lt k h hh)]
theorem orb_iff (hm' : Mates M' n') {x y : Nat} (hx : x < 4 * n') (hy : y < 4 * n') : OnOrb (fc M) (upE e x) (upE e y) ↔ OnOrb (fc M') x y := by
  constructor
  · rintro ⟨k, hk⟩
    rw [E.iter_up hm' hx] at hk
    exact ⟨k, E.up_inj (iter_lt _ _ hm'.inj.lt k x hx) hy hk⟩
  · rintro ⟨k, rfl⟩
    exact ⟨k, E.iter_up hm' hx k⟩
theorem conn_to (hm' : Mates M' n') {c d : Nat} (hc : c < n') (h : Conn M' c d) : Conn M (e c) (e d) := fun Q h0 hs =>
  (h (fun x => x < n' ∧ Q (e x)) ⟨hc, h0⟩ fun x y ⟨hx, hq⟩ hxy => by
    obtain ⟨s, hs4, rfl⟩ := hxy
    have hl : 4 * x + s < 4 * n' := by omega
    refine ⟨by have := hm'.lt hl; unfold mt at this; omega, hs (e x) _ hq ⟨s, hs4, ?_⟩⟩
    have h1 := E.mate (4 * x + s) hl
    have h2 : upE e (4 * x + s) = 4 * e x + s := by unfold upE; rw [show (4 * x + s) / 4 = x by omega]; omega
    rw [h2] at h1
    show mt M (4 * e x + s) / 4 = _
    rw [h1, upE_div]; rfl).2
theorem conn_back (hm' : Mates M' n') {c z : Nat} (hc : c < n') (h : Conn M (e c) z) : ∃ d, d < n' ∧ e d = z ∧ Conn M' c d :=
  h (fun z => ∃ d, d < n' ∧ e d = z ∧ Conn M' c d) ⟨c, hc, rfl, Conn.refl M' c⟩ fun x y ⟨d, hd, hx, hcd⟩ hxy => by
    obtain ⟨s, hs4, rfl⟩ := hxy
    subst hx
    have hl : 4 * d + s < 4 * n' := by omega
    have h1 := E.mate (4 * d + s) hl
    have h2 : upE e (4 * d + s) = 4 * e d + s := by unfold upE; rw [show (4 * d + s) / 4 = d by omega]; omega
    rw [h2] at h1
    have h3 : mt M (4 * e d + s) / 4 = e (mt M' (4 * d + s) / 4) := by rw [h1, upE_div]
    refine ⟨mt M' (4 * d + s) / 4, by have := hm'.lt hl; omega, h3.symm, hcd.step ⟨s, hs4, rfl⟩⟩
theorem conn_iff (hm' : Mates M' n') {c d : Nat} (hc : c < n') (hd : d < n') : Conn M (e c) (e d) ↔ Conn M' c d := by
  refine ⟨fun h => ?_, E.conn_to hm' hc⟩
  obtain ⟨d', h1, h2, h3⟩ := E.conn_back hm' hc h
  rwa [E.inj d' d h1 hd h2] at h3
theorem VC_eq (hm' : Mates M' n') {c : Nat} (hc : c < n') : VC M' n' c = VC M n (e c) := by
  classical
  refine Nat.le_antisymm ?_ ?_
  · refine cnt_inj e (fun x hx hp => ⟨E.lt x hx, ?_⟩) (fun x y hx hy _ _ he => E.inj x y hx hy he)
    rw [decide_eq_true_eq] at hp ⊢
    exact E.conn_to hm' hc hp
  · have hex : ∀ z, ∃ d, Conn M (e c) z → d < n' ∧ e d = z ∧ Conn M' c d := fun z => by
      by_cases h : Conn M (e c) z
      · obtain ⟨d, hd⟩ := E.conn_back hm' hc h
        exact ⟨d, fun _ => hd⟩
      · exact ⟨0, fun g => absurd g h⟩
    obtain ⟨ch, hch⟩ := Classical.axiomOfChoice hex
    refine cnt_inj ch (fun x _ hp => ?_) (fun x y _ _ hpx hpy he => ?_)
    · rw [decide_eq_true_eq] at hp ⊢
      exact ⟨(hch x hp).1, (hch x hp).2.2⟩
    · rw [decide_eq_true_eq] at hpx hpy
      rw [← (hch x hpx).2.1, ← (hch y hpy).2.1, he]
theorem FC_eq (hm' : Mates M' n') (hm : Mates M n) {c : Nat} (hc : c < n') : FC M' n' c = FC M n (e c) := by
  classical
  have e1 : FC M' n' c = nc (OnOrb (fc M')) (fun h => decide (Conn M' c (h / 4))) (4 * n') := nc_orb hm'.inj _
  have e2 : FC M n (e c) = nc (OnOrb (fc M)) (fun h => decide (Conn M (e c) (h / 4))) (4 * n) := nc_orb hm.inj _
  rw [e1, e2]
  have keep : ∀ (N : Nat) (f : Nat → Nat) (P : Nat → Bool), (∀ x, x < N → f x < N) → (∀ x, x < N → P (f x) = P x) → ∀ x y, x < N → OnOrb f x y → P x = true → P y = true := by
    rintro N f P hl hp x y hx ⟨k, rfl⟩ h
    induction k with
    | zero => exact h
    | succ k ih => rw [iter_succ, hp _ (iter_lt f N hl k x hx)]; exact ih
  refine Nat.le_antisymm ?_ ?_
  · refine nc_le (orb_eqv hm'.inj) (orb_eqv hm.inj) (fun x y hx _ ho hp => keep _ _ (fun h => decide (Conn M (e c) (h / 4))) hm.inj.lt (fun x hx => decide_eq_decide.2 (hm.conn_fc hx)) x y hx ho hp) (upE e) (fun x hx hp => ⟨E.up_lt hx, ?_⟩) (fun x y hx hy _ _ ho => (E.orb_iff hm' hx hy).1 ho)
    rw [decide_eq_true_eq] at hp ⊢
    rw [upE_div]
    exact E.conn_to hm' hc hp
  · have hex : ∀ z, ∃ x, z < 4 * n → Conn M (e c) (z / 4) → x < 4 * n' ∧ upE e x = z ∧ Conn M' c (x / 4) := fun z => by
      by_cases h : Conn M (e c) (z / 4)
      · obtain ⟨d, h1, h2, h3⟩ := E.conn_back hm' hc h
        refine ⟨4 * d + z % 4, fun _ _ => ⟨by omega, ?_, by rw [show (4 * d + z % 4) / 4 = d by omega]; exact h3⟩⟩
        unfold upE
        rw [show (4 * d + z % 4) / 4 = d by omega, h2]; omega
      · exact ⟨0, fun _ g => absurd g h⟩
    obtain ⟨ch, hch⟩ := Classical.axiomOfChoice hex
    refine nc_le (orb_eqv hm.inj) (orb_eqv hm'.inj) (fun x y hx _ ho hp => keep _ _ (fun h => decide (Conn M' c (h / 4))) hm'.inj.lt (fun x hx => decide_eq_decide.2 (hm'.conn_fc hx)) x y hx ho hp) ch (fun x hx hp => ?_) (fun x y hx hy hpx hpy ho => ?_)
    · rw [decide_eq_true_eq] at hp ⊢
      exact ⟨(hch x hx hp).1, (hch x hx hp).2.2⟩
    · rw [decide_eq_true_eq] at hpx hpy
      obtain ⟨a1, a2, _⟩ := hch x hx hpx
      obtain ⟨b1, b2, _⟩ := hch y hy hpy
      rw [← a2, ← b2]
      exact (E.orb_iff hm' a1 b1).2 ho
/-- Parts of a sphere are spheres. -/
theorem sph (hm' : Mates M' n') (hm : Mates M n) (hs : Sph M n) : Sph M' n' := fun c hc => by
  rw [E.FC_eq hm' hm hc, E.VC_eq hm' hc]
  exact hs (e c) (E.lt c hc)
/-- What lies within a diagram in order is in order. -/
theorem mates (hm : Mates M n) (hr : ∀ h, h < 4 * n' → 0 ≤ nth M' h ∧ nth M' h < 4 * (n' : Int)) : Mates M' n' := by
  have hlt : ∀ h, h < 4 * n' → mt M' h < 4 * n' := fun h hh => by have := hr h hh; unfold mt; omega
  refine ⟨⟨hr, fun h hh => ?_⟩, fun x hx he => ?_⟩
  · have h1 := E.mate h hh
    have h2 := E.mate (mt M' h) (hlt h hh)
    rw [← h1, hm.inv (E.up_lt hh)] at h2
    have h3 := E.up_inj hh (hlt _ (hlt h hh)) h2
    have h4 := hr _ (hlt h hh)
    unfold mt at h3 h4
    omega
  · have h1 := E.mate x hx
    have he : mt M' x = x := he
    rw [he] at h1
    exact hm.ne _ (E.up_lt hx) h1
end Emb
/-- The mates of x and of y exchanged. -/
def crossL (M : List Int) (x y : Nat) : List Int := (((M.set x (nth M y)).set (mt M y) (x : Int)).set y (nth M x)).set (mt M x) (y : Int)
theorem crossL_len (M : List Int) (x y : Nat) : (crossL M x y).length = M.length := by simp [crossL]
theorem swp_comp (g : Nat → Nat) (f : Nat → Nat) (a b z : Nat) : g (swp f a b z) = swp (fun u => g (f u)) a b z := by
  unfold swp; split
  · rfl
  · split <;> rfl
section
variable {M : List Int} {n x y : Nat} (hm : Mates M n) (hl : M.length = 4 * n) (hx : x < 4 * n) (hy : y < 4 * n) (hxy : x ≠ y) (hpy : mt M x ≠ y)
include hm hl hx hy hxy hpy
omit hxy hpy in
theorem cross_nth (z : Nat) : nth (crossL M x y) z = if mt M x = z then (y : Int) else if y = z then nth M x else if mt M y = z then (x : Int) else if x = z then nth M y else nth M z := by
  have p1 := hm.lt hx
  have q1 := hm.lt hy
  unfold crossL
  rw [nth_set _ _ _ _ (by simp; omega), nth_set _ _ _ _ (by simp; omega), nth_set _ _ _ _ (by simp; omega), nth_set _ _ _ _ (by omega)]
theorem cross_mt (z : Nat) : mt (crossL M x y) z = swp (swp (mt M) x y) (mt M x) (mt M y) z := by
  have hp := hm.inv hx
  have hq := hm.inv hy
  have n1 := hm.ne x hx
  have n2 := hm.ne y hy
  have n3 : mt M y ≠ x := fun e => hpy (by rw [← e, hq])
  have n4 : mt M x ≠ mt M y := fun e => hxy (by rw [← hp, e, hq])
  have h := cross_nth hm hl hx hy z
  have cx := hm.ok.lt x hx
  have cy := hm.ok.lt y hy
  show (nth (crossL M x y) z).toNat = _
  rw [h]
  unfold swp
  by_cases z1 : z = mt M x
  · rw [if_pos z1.symm, if_pos z1, if_neg n3, if_neg n2, hq]; omega
  · rw [if_neg (fun e => z1 e.symm), if_neg z1]
    by_cases z4 : z = y
    · rw [if_pos z4.symm, if_neg (fun e => n2 (e.symm.trans z4)), if_neg (fun e => hxy (e.symm.trans z4)), if_pos z4]; rfl
    · rw [if_neg (fun e => z4 e.symm)]
      by_cases z2 : z = mt M y
      · rw [if_pos z2.symm, if_pos z2, if_neg n1, if_neg hpy, hp]; omega
      · rw [if_neg (fun e => z2 e.symm), if_neg z2]
        by_cases z3 : z = x
        · rw [if_pos z3.symm, if_pos z3]; rfl
        · rw [if_neg (fun e => z3 e.symm), if_neg z3, if_neg z4]; rfl
theorem cross_comp (t : Int) (z : Nat) : tn (mt (crossL M x y) z) t = swp (swp (fun u => tn (mt M u) t) x y) (mt M x) (mt M y) z := by
  rw [cross_mt hm hl hx hy hxy hpy, swp_comp (fun u => tn u t)]
  congr 1
  funext u
  exact swp_comp (fun u => tn u t) (mt M) x y u
omit hxy hpy in
theorem cross_lt {z : Nat} (hz : z < 4 * n) : 0 ≤ nth (crossL M x y) z ∧ nth (crossL M x y) z < 4 * (n : Int) := by
  rw [cross_nth hm hl hx hy]
  have h1 := hm.ok.lt x hx
  have h2 := hm.ok.lt y hy
  have h3 := hm.ok.lt z hz
  split
  · omega
  · split
    · omega
    · split
      · omega
      · split <;> omega
theorem cross_mates : Mates (crossL M x y) n := by
  have hp := hm.inv hx
  have hq := hm.inv hy
  have n1 := hm.ne x hx
  have n2 := hm.ne y hy
  have n3 : mt M y ≠ x := fun e => hpy (by rw [← e, hq])
  have n4 : mt M x ≠ mt M y := fun e => hxy (by rw [← hp, e, hq])
  have e1 : mt (crossL M x y) x = mt M y := by
    rw [cross_mt hm hl hx hy hxy hpy, swp_other _ (fun e => n1 e.symm) (fun e => n3 e.symm), swp_left]
  have e2 : mt (crossL M x y) y = mt M x := by
    rw [cross_mt hm hl hx hy hxy hpy, swp_other _ (fun e => hpy e.symm) (fun e => n2 e.symm), swp_right]
  have e3 : mt (crossL M x y) (mt M x) = y := by
    rw [cross_mt hm hl hx hy hxy hpy, swp_left, swp_other _ n3 n2, hq]
  have e4 : mt (crossL M x y) (mt M y) = x := by
    rw [cross_mt hm hl hx hy hxy hpy, swp_right, swp_other _ n1 hpy, hp]
  have e5 : ∀ z, z ≠ x → z ≠ y → z ≠ mt M x → z ≠ mt M y → mt (crossL M x y) z = mt M z := fun z a b c d => by
    rw [cross_mt hm hl hx hy hxy hpy, swp_other _ c d, swp_other _ a b]
  have key : ∀ z, z < 4 * n → mt (crossL M x y) (mt (crossL M x y) z) = z ∧ mt (crossL M x y) z ≠ z := fun z hz => by
    by_cases a : z = x
    · subst a; rw [e1, e4]; exact ⟨rfl, n3⟩
    by_cases b : z = y
    · subst b; rw [e2, e3]; exact ⟨rfl, hpy⟩
    by_cases c : z = mt M x
    · rw [c, e3, e2]; exact ⟨rfl, fun e => hpy e.symm⟩
    by_cases d : z = mt M y
    · rw [d, e4, e1]; exact ⟨rfl, fun e => n3 e.symm⟩
    rw [e5 z a b c d]
    refine ⟨?_, hm.ne z hz⟩
    have hzz := hm.inv hz
    rw [e5 (mt M z) (fun e => d (by rw [← hzz, e]; exact absurd (by rw [← hzz, e] : z = mt M x) c)) (fun e => d (by rw [← hzz, e])) (fun e => a (by rw [← hzz, e, hp])) (fun e => b (by rw [← hzz, e, hq])), hzz]
  refine ⟨⟨fun h hh => cross_lt hm hl hx hy hh, fun h hh => ?_⟩, fun z hz => (key z hz).2⟩
  have k := (key h hh).1
  have r := cross_lt hm hl hx hy hh
  have r2 := cross_lt hm hl hx hy (z := mt (crossL M x y) h) (by unfold mt; omega)
  unfold mt at k r2
  omega
/-- Crossed twice all is as it was. -/
theorem cross_cross : crossL (crossL M x y) x y = M := by
  have hm' := cross_mates hm hl hx hy hxy hpy
  have hp := hm.inv hx
  have hq := hm.inv hy
  have n1 := hm.ne x hx
  have n2 := hm.ne y hy
  have n3 : mt M y ≠ x := fun e => hpy (by rw [← e, hq])
  have n4 : mt M x ≠ mt M y := fun e => hxy (by rw [← hp, e, hq])
  have hl' : (crossL M x y).length = 4 * n := by rw [crossL_len]; exact hl
  have e1 : mt (crossL M x y) x = mt M y := by
    rw [cross_mt hm hl hx hy hxy hpy, swp_other _ (fun e => n1 e.symm) (fun e => n3 e.symm), swp_left]
  have e2 : mt (crossL M x y) y = mt M x := by
    rw [cross_mt hm hl hx hy hxy hpy, swp_other _ (fun e => hpy e.symm) (fun e => n2 e.symm), swp_right]
  refine ext_nth (by rw [crossL_len, crossL_len]) fun z hz => ?_
  rw [crossL_len, crossL_len, hl] at hz
  have h1 := cross_nth hm' hl' hx hy z
  have h2 := cross_nth hm hl hx hy z
  have hx2 := cross_nth hm hl hx hy x
  have hy2 := cross_nth hm hl hx hy y
  rw [if_neg n1, if_neg (fun e => hxy e.symm), if_neg n3, if_pos rfl] at hx2
  rw [if_neg hpy, if_pos rfl] at hy2
  rw [e1, e2, hx2, hy2] at h1
  rw [h1, h2]
  have cp := hm.ok.inv x hx
  have cq := hm.ok.inv y hy
  by_cases z1 : mt M y = z
  · rw [if_pos z1, ← z1]; exact cq.symm
  · rw [if_neg z1]
    by_cases z2 : y = z
    · rw [if_pos z2, z2]
    · rw [if_neg z2]
      by_cases z3 : mt M x = z
      · rw [if_pos z3, ← z3]; exact cp.symm
      · rw [if_neg z3]
        by_cases z4 : x = z
        · rw [if_pos z4, z4]
        · rw [if_neg z4, if_neg z3, if_neg z2, if_neg z1, if_neg z4]
end
/-- Cycles that hold neither a nor b stay. -/
theorem orb_far {f : Nat → Nat} {N a b p : Nat} (hf : Inj f N) (hp : p < N) (h1 : ¬ OnOrb f p a) (h2 : ¬ OnOrb f p b) (z : Nat) : OnOrb f p z ↔ OnOrb (swp f a b) p z :=
  orb_congr hf (fun u => OnOrb f p u) (fun u _ h => onOrb_trans h ⟨1, rfl⟩) (fun u _ h => (swp_other f (fun e => h1 (by rw [← e]; exact h)) (fun e => h2 (by rw [← e]; exact h))).symm) hp (onOrb_refl f p)
/-- Two permutations that agree have as many cycles. -/
theorem nc_same {f g : Nat → Nat} {N : Nat} (hf : Inj f N) (hg : Inj g N) (P : Nat → Bool) (hP : ∀ x, x < N → P (f x) = P x) (h : ∀ x, x < N → P x = true → f x = g x) : cnt (fun x => leastB f (perOf f N) x && P x) N = cnt (fun x => leastB g (perOf g N) x && P x) N := by
  have hPf : ∀ x, x < N → P x = true → P (f x) = true := fun x hx hp => by rw [hP x hx]; exact hp
  have cl : ∀ x y, x < N → OnOrb f x y → P x = true → P y = true := by
    rintro x y hx ⟨k, rfl⟩ hp
    induction k with
    | zero => exact hp
    | succ k ih => rw [iter_succ]; exact hPf _ (iter_lt f N hf.lt k x hx) ih
  have cg : ∀ x y, x < N → OnOrb g x y → P x = true → P y = true := fun x y hx ho hp => cl x y hx ((orb_congr hf (fun u => P u = true) hPf h hx hp).2 ho) hp
  rw [nc_orb hf, nc_orb hg]
  refine Nat.le_antisymm ?_ ?_
  · exact nc_le (orb_eqv hf) (orb_eqv hg) (fun x y hx _ ho hp => cg x y hx ho hp) id (fun x hx hp => ⟨hx, hp⟩) (fun x y hx _ hp _ ho => (orb_congr hf (fun u => P u = true) hPf h hx hp).2 ho)
  · exact nc_le (orb_eqv hg) (orb_eqv hf) (fun x y hx _ ho hp => cl x y hx ho hp) id (fun x hx hp => ⟨hx, hp⟩) (fun x y hx _ hp _ ho => (orb_congr hf (fun u => P u = true) hPf h hx hp).1 ho)
/-- An edge of a sphere has two faces. -/
theorem face_ne {S M : List Int} {L : Int} (hv : vldB S M L = true) {x : Nat} (hx : x < 4 * S.length) : ¬ OnOrb (fc M) x (mt M x) := fun ho => by
  obtain ⟨hs, hsp⟩ := vldB_iff.1 hv
  have hm := hs.mates2
  obtain ⟨A, hA⟩ := bounds hm (c0 := x / 4) hsp (by omega) (fun z => decide (st S M z = st S M x)) (fun z hz => by rw [hs.st_mt hz]) (fun c _ _ => hs.strand_even _ _)
  have h := hA x hx (Conn.refl M _)
  have e : lf M S.length (mt M x) = lf M S.length x := fl_eq hm.inj hm.per hx ho
  rw [e] at h
  simp at h
section
variable {S M : List Int} {L : Int} (hv : vldB S M L = true) {x y : Nat} (hx : x < 4 * S.length) (hy : y < 4 * S.length) (hox : outB S x = true) (hoy : outB S y = true) (hxy : x ≠ y)
include hv hx hy hox hoy hxy
theorem cross_shape : Shape S (crossL M x y) L ∧ mt M x ≠ y := by
  obtain ⟨hs, _⟩ := vldB_iff.1 hv
  have hm := hs.mates2
  have o1 := hs.out_mt hx
  have o2 := hs.out_mt hy
  have hpy : mt M x ≠ y := fun e => by rw [e, hoy, hox] at o1; cases o1
  have hm' := cross_mates hm hs.len hx hy hxy hpy
  refine ⟨⟨hs.few, by rw [crossL_len]; exact hs.len, hs.lo, hs.hi, hs.sign, fun h hh => ?_⟩, hpy⟩
  have r := hm'.ok.lt h hh
  have i := hm'.ok.inv h hh
  have ne := hm'.ne h hh
  refine ⟨r.1, r.2, fun e => ne (by unfold mt; omega), i, ?_⟩
  show outB S h ≠ outB S (mt (crossL M x y) h)
  rw [cross_mt hm hs.len hx hy hxy hpy]
  unfold swp
  have n1 := hm.ne x hx
  have n2 := hm.ne y hy
  have hp := hm.inv hx
  have hq := hm.inv hy
  have n3 : mt M y ≠ x := fun e => hpy (by rw [← e, hq])
  by_cases a : h = mt M x
  · rw [if_pos a, if_neg n3, if_neg n2, hq, a, o1, hox, hoy]; decide
  · rw [if_neg a]
    by_cases b : h = mt M y
    · rw [if_pos b, if_neg n1, if_neg hpy, hp, b, o2, hox, hoy]; decide
    · rw [if_neg b]
      by_cases c : h = x
      · rw [if_pos c, c, o2, hox, hoy]; decide
      · rw [if_neg c]
        by_cases d : h = y
        · rw [if_pos d, d, o1, hox, hoy]; decide
        · rw [if_neg d, hs.out_mt hh]; cases outB S h <;> decide
/-- The faces' number of the crossed diagram. -/
theorem cross_FT : FT (crossL M x y) S.length = cnt (fun z => leastB (swp (swp (fc M) x y) (mt M x) (mt M y)) (perOf (swp (swp (fc M) x y) (mt M x) (mt M y)) (4 * S.length)) z && true) (4 * S.length) := by
  obtain ⟨hs, _⟩ := vldB_iff.1 hv
  have hm := hs.mates2
  obtain ⟨hs', hpy⟩ := cross_shape hv hx hy hox hoy hxy
  have hm' := hs'.mates2
  have hg := swp_inj (swp_inj hm.inj hx hy) (hm.lt hx) (hm.lt hy)
  have h1 := nc_same hm'.inj hg (fun _ => true) (fun _ _ => rfl) (fun z _ _ => cross_comp hm hs.len hx hy hxy hpy (-1) z)
  rw [← h1]
  unfold FT
  exact cnt_congr fun _ _ => by rw [Bool.and_true]
/-- What is connected stays so, or hangs with x or y. -/
theorem cross_tie {c d : Nat} (hc : c < S.length) (h : Conn M c d) : Conn (crossL M x y) c d ∨ ((Conn (crossL M x y) c (x / 4) ∨ Conn (crossL M x y) c (y / 4)) ∧ (Conn (crossL M x y) d (x / 4) ∨ Conn (crossL M x y) d (y / 4))) := by
  obtain ⟨hs, _⟩ := vldB_iff.1 hv
  have hm := hs.mates2
  obtain ⟨hs', hpy⟩ := cross_shape hv hx hy hox hoy hxy
  have hm' := hs'.mates2
  have hp := hm.inv hx
  have hq := hm.inv hy
  have n1 := hm.ne x hx
  have n2 := hm.ne y hy
  have n3 : mt M y ≠ x := fun e => hpy (by rw [← e, hq])
  have e1 : mt (crossL M x y) x = mt M y := by
    rw [cross_mt hm hs.len hx hy hxy hpy, swp_other _ (fun e => n1 e.symm) (fun e => n3 e.symm), swp_left]
  have e2 : mt (crossL M x y) y = mt M x := by
    rw [cross_mt hm hs.len hx hy hxy hpy, swp_other _ (fun e => hpy e.symm) (fun e => n2 e.symm), swp_right]
  have c1 : Conn (crossL M x y) (x / 4) (mt M y / 4) := by rw [← e1]; exact Conn.adj Mates.adj
  have c2 : Conn (crossL M x y) (y / 4) (mt M x / 4) := by rw [← e2]; exact Conn.adj Mates.adj
  have c3 := hm'.ok.conn_symm (by omega) c1
  have c4 := hm'.ok.conn_symm (by omega) c2
  have key := h (fun d => d < S.length ∧ (Conn (crossL M x y) c d ∨ ((Conn (crossL M x y) c (x / 4) ∨ Conn (crossL M x y) c (y / 4)) ∧ (Conn (crossL M x y) d (x / 4) ∨ Conn (crossL M x y) d (y / 4))))) ⟨hc, .inl (Conn.refl _ _)⟩ (fun a b ⟨ha, hq0⟩ hab => by
    have hbn := hm.ok.adj_lt ha hab
    obtain ⟨s, hs4, rfl⟩ := hab
    have hl : 4 * a + s < 4 * S.length := by omega
    have hz : (4 * a + s) / 4 = a := by omega
    show mt M (4 * a + s) / 4 < S.length ∧ _
    refine ⟨hbn, ?_⟩
    have hbn2 : mt M (4 * a + s) / 4 < S.length := hbn
    -- is the edge one of the two?
    have near : ∀ z, z < S.length → (Conn (crossL M x y) z (x / 4) ∨ Conn (crossL M x y) z (y / 4)) → Conn (crossL M x y) c z → (Conn (crossL M x y) c (x / 4) ∨ Conn (crossL M x y) c (y / 4)) := fun z _ h1 h2 => by
      rcases h1 with h1 | h1
      · exact .inl (h2.trans h1)
      · exact .inr (h2.trans h1)
    have both : (Conn (crossL M x y) a (x / 4) ∨ Conn (crossL M x y) a (y / 4)) → (Conn (crossL M x y) (mt M (4 * a + s) / 4) (x / 4) ∨ Conn (crossL M x y) (mt M (4 * a + s) / 4) (y / 4)) → Conn (crossL M x y) c (mt M (4 * a + s) / 4) ∨ ((Conn (crossL M x y) c (x / 4) ∨ Conn (crossL M x y) c (y / 4)) ∧ (Conn (crossL M x y) (mt M (4 * a + s) / 4) (x / 4) ∨ Conn (crossL M x y) (mt M (4 * a + s) / 4) (y / 4))) := fun h1 h2 => by
      rcases hq0 with h3 | ⟨h3, _⟩
      · exact .inr ⟨near a ha h1 h3, h2⟩
      · exact .inr ⟨h3, h2⟩
    by_cases g1 : 4 * a + s = x
    · refine both (.inl (by rw [← hz, g1]; exact Conn.refl _ _)) (.inr (by rw [g1]; exact c4))
    by_cases g2 : 4 * a + s = y
    · refine both (.inr (by rw [← hz, g2]; exact Conn.refl _ _)) (.inl (by rw [g2]; exact c3))
    by_cases g3 : 4 * a + s = mt M x
    · refine both (.inr (by rw [← hz, g3]; exact c4)) (.inl (by rw [g3, hp]; exact Conn.refl _ _))
    by_cases g4 : 4 * a + s = mt M y
    · refine both (.inl (by rw [← hz, g4]; exact c3)) (.inr (by rw [g4, hq]; exact Conn.refl _ _))
    have e5 : mt (crossL M x y) (4 * a + s) = mt M (4 * a + s) := by
      rw [cross_mt hm hs.len hx hy hxy hpy, swp_other _ g3 g4, swp_other _ g1 g2]
    have hst : Conn (crossL M x y) a (mt M (4 * a + s) / 4) := by
      have := Conn.adj (Mates.adj (M := crossL M x y) (x := 4 * a + s))
      rwa [e5, hz] at this
    rcases hq0 with h3 | ⟨h3, h4⟩
    · exact .inl (h3.trans hst)
    · have hb := hm'.ok.conn_symm ha hst
      refine .inr ⟨h3, ?_⟩
      rcases h4 with h4 | h4
      · exact .inl (hb.trans h4)
      · exact .inr (hb.trans h4))
  exact key.2
/-- AT A CUT A SPHERE FALLS INTO TWO. -/
theorem cut_sph (h1 : OnOrb (fc M) x y) (h2 : OnOrb (fc M) (mt M x) (mt M y)) : vldB S (crossL M x y) L = true ∧ ¬ Conn (crossL M x y) (x / 4) (y / 4) := by
  obtain ⟨hs, hsp⟩ := vldB_iff.1 hv
  have hm := hs.mates2
  obtain ⟨hs', hpy⟩ := cross_shape hv hx hy hox hoy hxy
  have hm' := hs'.mates2
  have hp := hm.inv hx
  have hq := hm.inv hy
  have n4 : mt M x ≠ mt M y := fun e => hxy (by rw [← hp, e, hq])
  have hne := face_ne hv hx
  have s1 := split_count hm.inj hx hy hxy h1 (fun _ => true) (fun _ _ => rfl) rfl rfl
  have f1 : ¬ OnOrb (fc M) (mt M x) x := fun h => hne (onOrb_symm hm.inj (hm.lt hx) h)
  have f2 : ¬ OnOrb (fc M) (mt M x) y := fun h => f1 (onOrb_trans h (onOrb_symm hm.inj hx h1))
  have h3 := (orb_far hm.inj (hm.lt hx) f1 f2 (mt M y)).1 h2
  have s2 := split_count (swp_inj hm.inj hx hy) (hm.lt hx) (hm.lt hy) n4 h3 (fun _ => true) (fun _ _ => rfl) rfl rfl
  have hF := cross_FT hv hx hy hox hoy hxy
  have hF0 : FT M S.length = cnt (fun z => leastB (fc M) (perOf (fc M) (4 * S.length)) z && true) (4 * S.length) := by
    unfold FT; exact cnt_congr fun _ _ => by rw [Bool.and_true]
  have ht := (sph_total hm).1 hsp
  have hg := genus_total hm'
  have E : Eqv (Conn (crossL M x y)) S.length := ⟨fun _ _ => Conn.refl _ _, fun _ _ ha _ h => hm'.ok.conn_symm ha h, fun _ _ _ _ _ _ a b => a.trans b⟩
  have E' : Eqv (Conn M) S.length := ⟨fun _ _ => Conn.refl _ _, fun _ _ ha _ h => hm.ok.conn_symm ha h, fun _ _ _ _ _ _ a b => a.trans b⟩
  have tie := nc_tie E E' (a := x / 4) (b := y / 4) (by omega) (by omega) (fun c d hc _ h => cross_tie hv hx hy hox hoy hxy hc h)
  rw [← Sm.ct_nc hm', ← Sm.ct_nc hm] at tie
  refine ⟨vldB_iff.2 ⟨hs', (sph_total hm').2 (by omega)⟩, fun hc => ?_⟩
  have := tie.2 hc
  omega
end
section
variable {S M : List Int} {L : Int} (hv : vldB S M L = true) {x y : Nat} (hx : x < 4 * S.length) (hy : y < 4 * S.length) (hox : outB S x = true) (hoy : outB S y = true) (hno : ¬ Conn M (x / 4) (y / 4))
include hv hx hy hox hoy hno
omit hv hx hy hox hoy in
theorem join_ne : x ≠ y := fun e => hno (by rw [e]; exact Conn.refl M _)
/-- The strands of x and of y become one, so that both ends are connected. -/
theorem join_conn : Conn (crossL M x y) (x / 4) (y / 4) ∧ (leasts S (crossL M x y)).length + 1 = (leasts S M).length := by
  obtain ⟨hs, _⟩ := vldB_iff.1 hv
  have hm := hs.mates2
  have hxy := join_ne hno
  obtain ⟨hs', hpy⟩ := cross_shape hv hx hy hox hoy hxy
  have o1 := hs.out_mt hx
  have o2 := hs.out_mt hy
  have hnos : ¬ OnOrb (sc M) x y := fun ⟨k, hk⟩ => hno (by
    have := Shape.conn_sc hs (c := x / 4) (k := k) hx (Conn.refl M _)
    rwa [hk] at this)
  have hg := swp_inj hs.injS hx hy
  have hPf : ∀ z, z < 4 * S.length → outB S (sc M z) = outB S z := fun z hz => hs.outS z hz
  have hPg : ∀ z, z < 4 * S.length → outB S (swp (sc M) x y z) = outB S z := fun z hz => by
    by_cases h1 : z = x
    · rw [h1, swp_left, hPf y hy, hox, hoy]
    · by_cases h2 : z = y
      · rw [h2, swp_right, hPf x hx, hox, hoy]
      · rw [swp_other _ h1 h2, hPf z hz]
  have hag : ∀ z, z < 4 * S.length → outB S z = true → swp (sc M) x y z = sc (crossL M x y) z := fun z hz hz1 => by
    have h1 := cross_comp hm hs.len hx hy hxy hpy 2 z
    rw [swp_other _ (fun e => by rw [e, o1, hox] at hz1; cases hz1) (fun e => by rw [e, o2, hoy] at hz1; cases hz1)] at h1
    exact h1.symm
  have ho := merge_ab hs.injS hy hnos
  have ho2 := (orb_congr hg (fun u => outB S u = true) (fun u hu h => by rw [hPg u hu]; exact h) hag hx hox).1 ho
  refine ⟨?_, ?_⟩
  · obtain ⟨k, hk⟩ := ho2
    have := Shape.conn_sc hs' (c := x / 4) (k := k) hx (Conn.refl _ _)
    rwa [hk] at this
  · have m1 := merge_count hs.injS hx hy hnos (outB S) hPf hox hoy
    have m2 := nc_same hg hs'.injS (outB S) hPg hag
    rw [leasts_len, leasts_len]
    have e1 : cnt (fun x => outB S x && leastB (sc M) (perOf (sc M) (4 * S.length)) x) (4 * S.length) = cnt (fun x => leastB (sc M) (perOf (sc M) (4 * S.length)) x && outB S x) (4 * S.length) := cnt_congr fun _ _ => Bool.and_comm _ _
    have e2 : cnt (fun z => outB S z && leastB (sc (crossL M x y)) (perOf (sc (crossL M x y)) (4 * S.length)) z) (4 * S.length) = cnt (fun z => leastB (sc (crossL M x y)) (perOf (sc (crossL M x y)) (4 * S.length)) z && outB S z) (4 * S.length) := cnt_congr fun _ _ => Bool.and_comm _ _
    rw [e1, e2]
    omega
/-- TWO SPHERES JOINED ARE ONE; the two edges are then a cut. -/
theorem join_sph : vldB S (crossL M x y) L = true ∧ OnOrb (fc (crossL M x y)) x y ∧ OnOrb (fc (crossL M x y)) (mt (crossL M x y) x) (mt (crossL M x y) y) := by
  classical
  obtain ⟨hs, hsp⟩ := vldB_iff.1 hv
  have hm := hs.mates2
  have hxy := join_ne hno
  obtain ⟨hs', hpy⟩ := cross_shape hv hx hy hox hoy hxy
  have hm' := hs'.mates2
  have hp := hm.inv hx
  have hq := hm.inv hy
  have n1 := hm.ne x hx
  have n2 := hm.ne y hy
  have n3 : mt M y ≠ x := fun e => hpy (by rw [← e, hq])
  have n4 : mt M x ≠ mt M y := fun e => hxy (by rw [← hp, e, hq])
  have hcs := fun {a b : Nat} (ha : a < S.length) (h : Conn M a b) => hm.ok.conn_symm ha h
  have cp : Conn M (x / 4) (mt M x / 4) := Conn.adj Mates.adj
  have cq : Conn M (y / 4) (mt M y / 4) := Conn.adj Mates.adj
  have orbC : ∀ u v, u < 4 * S.length → OnOrb (fc M) u v → Conn M (u / 4) (v / 4) := fun u v hu ho => (hm.conn_orb hu ho).2 (Conn.refl M _)
  have lp := hm.lt hx
  have lq := hm.lt hy
  have k1 : ¬ OnOrb (fc M) x y := fun h => hno (orbC x y hx h)
  have k2 : ¬ OnOrb (fc M) (mt M x) (mt M y) := fun h => hno ((cp.trans (orbC _ _ lp h)).trans (hcs (by omega) cq))
  have f1 : ¬ OnOrb (fc M) (mt M x) x := fun h => face_ne hv hx (onOrb_symm hm.inj lp h)
  have f2 : ¬ OnOrb (fc M) (mt M x) y := fun h => hno (cp.trans (orbC _ _ lp h))
  have hgI := swp_inj hm.inj hx hy
  have s1 := merge_count hm.inj hx hy k1 (fun _ => true) (fun _ _ => rfl) rfl rfl
  have k3 : ¬ OnOrb (swp (fc M) x y) (mt M x) (mt M y) := fun h => k2 ((orb_far hm.inj lp f1 f2 (mt M y)).2 h)
  have s2 := merge_count hgI lp lq k3 (fun _ => true) (fun _ _ => rfl) rfl rfl
  have hF := cross_FT hv hx hy hox hoy hxy
  have hF0 : FT M S.length = cnt (fun z => leastB (fc M) (perOf (fc M) (4 * S.length)) z && true) (4 * S.length) := by
    unfold FT; exact cnt_congr fun _ _ => by rw [Bool.and_true]
  have ht := (sph_total hm).1 hsp
  have hg := genus_total hm'
  have E' : Eqv (Conn (crossL M x y)) S.length := ⟨fun _ _ => Conn.refl _ _, fun _ _ ha _ h => hm'.ok.conn_symm ha h, fun _ _ _ _ _ _ a b => a.trans b⟩
  have E : Eqv (Conn M) S.length := ⟨fun _ _ => Conn.refl _ _, fun _ _ ha _ h => hm.ok.conn_symm ha h, fun _ _ _ _ _ _ a b => a.trans b⟩
  have hj := (join_conn hv hx hy hox hoy hno).1
  have hj' := hm'.ok.conn_symm (show x / 4 < S.length by omega) hj
  have sub : ∀ c d, c < S.length → d < S.length → Conn M c d → Conn (crossL M x y) c d := fun c d hc hd h => by
    rcases cross_tie hv hx hy hox hoy hxy hc h with g | ⟨g1, g2⟩
    · exact g
    · have a1 : Conn (crossL M x y) c (x / 4) := by
        rcases g1 with g | g
        · exact g
        · exact g.trans hj'
      have a2 : Conn (crossL M x y) d (x / 4) := by
        rcases g2 with g | g
        · exact g
        · exact g.trans hj'
      exact a1.trans (hm'.ok.conn_symm hd a2)
  have hsp1 := nc_split (Conn M) (fun _ => true) (fun c => decide (Conn M c (y / 4))) S.length
  have hone : nc (Conn M) (fun c => true && decide (Conn M c (y / 4))) S.length = 1 := by
    refine nc_one E (a := y / 4) (by omega) ?_ ?_ ?_
    · rw [Bool.true_and, decide_eq_true_eq]; exact Conn.refl _ _
    · intro u v hu hv e hp
      rw [Bool.true_and, decide_eq_true_eq] at hp ⊢
      exact (hm.ok.conn_symm hu e).trans hp
    · intro u hu hp
      rw [Bool.true_and, decide_eq_true_eq] at hp
      exact hp
  have hle : nc (Conn (crossL M x y)) (fun _ => true) S.length ≤ nc (Conn M) (fun c => true && !decide (Conn M c (y / 4))) S.length := by
    refine nc_le E' E (fun u v hu hv e hp => ?_) (fun c => if Conn M c (y / 4) then x / 4 else c) (fun c hc _ => ?_) (fun u v hu hv _ _ e => ?_)
    · rw [Bool.true_and, Bool.not_eq_true', decide_eq_false_iff_not] at hp ⊢
      exact fun g => hp (e.trans g)
    · show (if Conn M c (y / 4) then x / 4 else c) < S.length ∧ _
      rw [Bool.true_and, Bool.not_eq_true', decide_eq_false_iff_not]
      by_cases g : Conn M c (y / 4)
      · rw [if_pos g]; exact ⟨by omega, hno⟩
      · rw [if_neg g]; exact ⟨hc, g⟩
    · have e : Conn M (if Conn M u (y / 4) then x / 4 else u) (if Conn M v (y / 4) then x / 4 else v) := e
      by_cases g : Conn M u (y / 4)
      · have gu : Conn (crossL M x y) u (x / 4) := (sub _ _ hu (by omega) g).trans hj'
        rw [if_pos g] at e
        by_cases g2 : Conn M v (y / 4)
        · have gv : Conn (crossL M x y) v (x / 4) := (sub _ _ hv (by omega) g2).trans hj'
          exact gu.trans (hm'.ok.conn_symm hv gv)
        · rw [if_neg g2] at e
          exact gu.trans (sub _ _ (by omega) hv e)
      · rw [if_neg g] at e
        by_cases g2 : Conn M v (y / 4)
        · have gv : Conn (crossL M x y) v (x / 4) := (sub _ _ hv (by omega) g2).trans hj'
          rw [if_pos g2] at e
          exact (sub _ _ hu (by omega) e).trans (hm'.ok.conn_symm hv gv)
        · rw [if_neg g2] at e
          exact sub _ _ hu hv e
  rw [← Sm.ct_nc hm'] at hle
  rw [← Sm.ct_nc hm] at hsp1
  have hh := swp_inj hgI lp lq
  have eqo : ∀ u v, u < 4 * S.length → (OnOrb (fc (crossL M x y)) u v ↔ OnOrb (swp (swp (fc M) x y) (mt M x) (mt M y)) u v) := fun u v hu => orb_congr hm'.inj (fun _ => True) (fun _ _ _ => trivial) (fun z _ _ => cross_comp hm hs.len hx hy hxy hpy (-1) z) hu trivial
  refine ⟨vldB_iff.2 ⟨hs', (sph_total hm').2 (by omega)⟩, (eqo x y hx).2 (merge_of hgI lp lq k3 (merge_ab hm.inj hy k1)), ?_⟩
  have e1 : mt (crossL M x y) x = mt M y := by
    rw [cross_mt hm hs.len hx hy hxy hpy, swp_other _ (fun e => n1 e.symm) (fun e => n3 e.symm), swp_left]
  have e2 : mt (crossL M x y) y = mt M x := by
    rw [cross_mt hm hs.len hx hy hxy hpy, swp_other _ (fun e => hpy e.symm) (fun e => n2 e.symm), swp_right]
  rw [e1, e2]
  exact (eqo _ _ lq).2 (onOrb_symm hh lp (merge_ab hgI lq k3))
end
def uniM (A B : List Int) : List Int := A ++ B.map fun m => (A.length : Int) + m
theorem uniM_len (A B : List Int) : (uniM A B).length = A.length + B.length := by simp [uniM]
theorem uniM_left {A B : List Int} {h : Nat} (hh : h < A.length) : nth (uniM A B) h = nth A h := nth_append_left _ _ _ hh
theorem uniM_right {A B : List Int} {h : Nat} (hh : h < B.length) : nth (uniM A B) (A.length + h) = (A.length : Int) + nth B h := by
  unfold uniM
  rw [nth_append_right _ _ _ (by omega), Nat.add_sub_cancel_left]
  simp [nth, hh]
section
variable {Sa Ma Sb Mb : List Int} {La Lb L : Int} (hva : vldB Sa Ma La = true) (hvb : vldB Sb Mb Lb = true) (hn : Sa.length + Sb.length ≤ 64) (h0 : 0 ≤ L) (h64 : L ≤ 64)
include hva hvb

theorem uni_left : ∀ h, h < 4 * Sa.length → nth (uniM Ma Mb) h = nth Ma h ∧ outB (Sa ++ Sb) h = outB Sa h := fun h hh => by
  have _ := hvb
  obtain ⟨ha, _⟩ := vldB_iff.1 hva
  refine ⟨uniM_left (by rw [ha.len]; exact hh), ?_⟩
  unfold outB
  rw [nth_append_left _ _ _ (by omega)]
theorem uni_right : ∀ h, h < 4 * Sb.length → nth (uniM Ma Mb) (4 * Sa.length + h) = 4 * (Sa.length : Int) + nth Mb h ∧ outB (Sa ++ Sb) (4 * Sa.length + h) = outB Sb h := fun h hh => by
  obtain ⟨ha, _⟩ := vldB_iff.1 hva
  obtain ⟨hb, _⟩ := vldB_iff.1 hvb
  have h1 := uniM_right (A := Ma) (B := Mb) (h := h) (by rw [hb.len]; exact hh)
  rw [ha.len] at h1
  refine ⟨by rw [h1]; push_cast; rfl, ?_⟩
  unfold outB
  rw [show (4 * Sa.length + h) % 4 = h % 4 by omega, show (4 * Sa.length + h) / 4 = Sa.length + h / 4 by omega, nth_append_right _ _ _ (by omega), Nat.add_sub_cancel_left]
theorem uni_embA : Emb Ma Sa.length (uniM Ma Mb) (Sa.length + Sb.length) id := ⟨fun c hc => by show c < _; omega, fun _ _ _ _ e => e, fun h hh => by
  have h1 := (uni_left hva hvb h hh).1
  have e : ∀ z, upE id z = z := fun z => by unfold upE; show 4 * (z / 4) + z % 4 = z; omega
  rw [e, e]
  unfold mt; rw [h1]⟩
theorem uni_embB : Emb Mb Sb.length (uniM Ma Mb) (Sa.length + Sb.length) (fun c => Sa.length + c) := ⟨fun c hc => by omega, fun _ _ _ _ e => by omega, fun h hh => by
  obtain ⟨hb, _⟩ := vldB_iff.1 hvb
  have h1 := (uni_right hva hvb h hh).1
  have e : ∀ z, upE (fun c => Sa.length + c) z = 4 * Sa.length + z := fun z => by show 4 * (Sa.length + z / 4) + z % 4 = _; omega
  have hr := hb.range h hh
  rw [e, e]
  unfold mt; rw [h1]; omega⟩
include hn h0 h64
theorem uni_shape : Shape (Sa ++ Sb) (uniM Ma Mb) L := by
  obtain ⟨ha, _⟩ := vldB_iff.1 hva
  obtain ⟨hb, _⟩ := vldB_iff.1 hvb
  refine ⟨by rw [List.length_append]; exact hn, by rw [uniM_len, List.length_append, ha.len, hb.len]; omega, h0, h64, fun c hc => ?_, fun h hh => ?_⟩
  · rw [List.length_append] at hc
    by_cases g : c < Sa.length
    · rw [nth_append_left _ _ _ g]; exact ha.sign c g
    · rw [nth_append_right _ _ _ (by omega)]; exact hb.sign _ (by omega)
  · rw [List.length_append] at hh ⊢
    by_cases g : h < 4 * Sa.length
    · obtain ⟨m1, m2, m3, m4, m5⟩ := ha.mate h g
      obtain ⟨e1, e2⟩ := uni_left hva hvb h g
      obtain ⟨e3, e4⟩ := uni_left hva hvb (nth Ma h).toNat (by omega)
      unfold mateOk
      rw [e1, e2, e3, e4]
      exact ⟨m1, by omega, m3, m4, m5⟩
    · obtain ⟨k, rfl⟩ : ∃ k, h = 4 * Sa.length + k := ⟨h - 4 * Sa.length, by omega⟩
      have hk : k < 4 * Sb.length := by omega
      obtain ⟨m1, m2, m3, m4, m5⟩ := hb.mate k hk
      obtain ⟨e1, e2⟩ := uni_right hva hvb k hk
      obtain ⟨e3, e4⟩ := uni_right hva hvb (nth Mb k).toNat (by omega)
      have e5 : (4 * (Sa.length : Int) + nth Mb k).toNat = 4 * Sa.length + (nth Mb k).toNat := by omega
      unfold mateOk
      rw [e1, e2, e5, e3, e4]
      exact ⟨by omega, by omega, by omega, by omega, m5⟩
end
/-- Does it hold? -/
noncomputable def okC (p : Prop) : Bool := @decide p (Classical.propDecidable p)
theorem okC_iff {p : Prop} : okC p = true ↔ p := @decide_eq_true_iff p (Classical.propDecidable p)
/-- The least crossings of the parts. -/
noncomputable def leadsN (M : List Int) (n : Nat) : List Nat := (List.range n).filter fun c => okC (∀ d, d < c → ¬ Conn M d c)
noncomputable def clsN (M : List Int) (n c : Nat) : List Nat := (List.range n).filter fun d => okC (Conn M c d)
/-- The parts. -/
noncomputable def grpOf (M : List Int) (n : Nat) : List (List Nat) := (leadsN M n).map (clsN M n)
theorem mem_leadsN {M : List Int} {n c : Nat} : c ∈ leadsN M n ↔ c < n ∧ ∀ d, d < c → ¬ Conn M d c := by
  unfold leadsN
  rw [List.mem_filter, List.mem_range, okC_iff]
theorem mem_clsN {M : List Int} {n c d : Nat} : d ∈ clsN M n c ↔ d < n ∧ Conn M c d := by
  unfold clsN
  rw [List.mem_filter, List.mem_range, okC_iff]
/-- What a round of label leaves. -/
theorem LbOut.round_keep {M : List Int} {n c : Nat} {st : List Int × Int} (hm : MateOk M n) (h : LbOut M n c st) (hc : c < n) (hn : n ≤ 1000) : ∃ st', lbRound M 1000000 c st = some st' ∧ (st' = st ∧ 0 ≤ nth st.1 c ∨ st'.2 = st.2 + 1 ∧ nth st'.1 c = st.2 ∧ ∀ d, d < n → 0 ≤ nth st.1 d → nth st'.1 d = nth st.1 d) := by
  unfold lbRound
  by_cases hneg : 0 ≤ nth st.1 c
  · rw [if_pos hneg]; exact ⟨st, rfl, .inl ⟨rfl, hneg⟩⟩
  · rw [if_neg hneg]
    have hlen := h.base.len
    have hset := fun j => nth_set st.1 c j st.2 (by rw [hlen]; exact hc)
    have hinv : LbInv M n st.2 c st.1 (st.1.set c st.2, [(c : Int)]) := by
      refine ⟨by simpa using hlen, ?_, ?_, ?_⟩
      · intro x hx
        simp only [List.mem_singleton] at hx
        subst hx
        exact ⟨c, rfl, hc, by simp only; rw [hset, if_pos rfl]⟩
      · intro d hd hnn
        simp only
        rw [hset]
        split
        · rename_i e; subst e; omega
        · rfl
      · intro d hd
        simp only
        rw [hset]
        split
        · rename_i e; subst e; exact .inr ⟨rfl, Conn.refl M c⟩
        · exact .inl rfl
    have hng : negs (st.1.set c st.2) + 1 ≤ 1000000 := by
      have := negs_le (st.1.set c st.2)
      rw [List.length_set, hlen] at this
      omega
    obtain ⟨part, k1, k2, k3, k4⟩ := LbInv.queue hm h.lo h.base 1000000 _ hinv (by simpa using hng) (by
        intro b hb hbp
        simp only at hbp ⊢
        rw [hset] at hbp
        split at hbp
        · rename_i e; subst e; exact .inl (by simp)
        · have := h.base.lt b hb; omega) (by
        intro x hx b hxb
        simp only [List.mem_singleton] at hx
        have : b = c := by omega
        subst this
        exact Conn.refl M _)
    rw [k1]
    refine ⟨_, rfl, .inr ⟨rfl, ?_, fun d hd h0 => ?_⟩⟩
    · have := k4 c hc (by simp only; rw [hset, if_pos rfl]; exact h.lo)
      simp only at this ⊢
      rw [this, hset, if_pos rfl]
    · have := k2.old d hd h0
      simpa using this
/-- The numbers come in the order of their first crossings. -/
def LbOrd (c : Nat) (st : List Int × Int) : Prop := ∀ q : Nat, (q : Int) < st.2 → ∃ d, d < c ∧ nth st.1 d = (q : Int) ∧ ∀ e, e < d → nth st.1 e < (q : Int)
theorem label_ord {M : List Int} {n : Nat} (hm : MateOk M n) (hn : n ≤ 1000) : ∀ (k c : Nat) (st : List Int × Int), LbOut M n c st → LbOrd c st → c + k = n → ∀ r, lbOuter M 1000000 k c st = some r → LbOrd n r := by
  intro k
  induction k with
  | zero =>
    intro c st h ho hc r hr
    have e : c = n := by omega
    subst e
    have hr : some st = some r := hr
    cases hr
    exact ho
  | succ k ih =>
    intro c st h ho hc r hr
    obtain ⟨st1, h1, h2⟩ := h.round hm (by omega) hn
    obtain ⟨st1', h1', h3⟩ := h.round_keep hm (by omega) hn
    rw [h1] at h1'
    cases h1'
    rw [lbOuter, h1] at hr
    refine ih (c + 1) st1 h2 (fun q hq => ?_) (by omega) r hr
    rcases h3 with ⟨rfl, _⟩ | ⟨e1, e2, e3⟩
    · obtain ⟨d, d1, d2, d3⟩ := ho q hq
      exact ⟨d, by omega, d2, d3⟩
    · by_cases g : (q : Int) < st.2
      · obtain ⟨d, d1, d2, d3⟩ := ho q g
        refine ⟨d, by omega, by rw [e3 d (by omega) (by omega)]; exact d2, fun e he => ?_⟩
        rw [e3 e (by omega) (h.seen e (by omega))]
        exact d3 e he
      · refine ⟨c, by omega, by omega, fun e he => ?_⟩
        rw [e3 e (by omega) (h.seen e he)]
        have := h.base.lt e (by omega)
        omega
theorem label_ordered {M : List Int} {n : Nat} (hm : MateOk M n) (hn : n ≤ 1000) {part : List Int} {parts : Nat} (h : lbOuter M 1000000 n 0 (List.replicate n (-1), 0) = some (part, (parts : Int))) : ∀ q, q < parts → ∃ d, d < n ∧ nth part d = (q : Int) ∧ ∀ e, e < d → nth part e < (q : Int) := by
  have h0 : LbOut M n 0 (List.replicate n (-1), 0) := by
    have hr : ∀ d, d < n → nth (List.replicate n (-1 : Int)) d = -1 := fun d hd => nth_replicate n d (-1) hd
    refine ⟨⟨by simp, fun d hd => ?_, fun c d hc _ hnn => ?_⟩, Int.le_refl _, Int.le_refl _, fun d hd => ?_, fun d hd => by omega, fun a b ha _ hnn => ?_, fun q hq => ?_⟩
    · simp only; rw [hr d hd]; omega
    · simp only at hnn; rw [hr c hc] at hnn; omega
    · simp only; rw [hr d hd]; omega
    · simp only at hnn; rw [hr a ha] at hnn; omega
    · simp only at hq; omega
  have := label_ord hm hn n 0 _ h0 (fun q hq => by simp only at hq; omega) (by omega) _ h
  exact fun q hq => this q (by simp only; omega)
/-- Two rising lists with the same members are one. -/
theorem rising_eq {l r : List Nat} (hl : l.Pairwise (· < ·)) (hr : r.Pairwise (· < ·)) (h : ∀ x, x ∈ l ↔ x ∈ r) : l = r := by
  have nl : l.Nodup := hl.imp fun e => Nat.ne_of_lt e
  have nr : r.Nodup := hr.imp fun e => Nat.ne_of_lt e
  exact ((List.perm_ext_iff_of_nodup nl nr).2 h).eq_of_pairwise (fun _ _ _ _ a b => absurd a (Nat.lt_asymm b)) hl hr
theorem range_rising (n : Nat) : (List.range n).Pairwise (· < ·) := List.pairwise_lt_range
/-- The crossings that bear number p, and the parts: the same lists. -/
theorem groups_eq {M : List Int} {n : Nat} {part : List Int} {parts : Nat} (hl : Labels M n part parts) (ho : ∀ q, q < parts → ∃ d, d < n ∧ nth part d = (q : Int) ∧ ∀ e, e < d → nth part e < (q : Int)) :
    (List.range parts).map (fun p : Nat => (List.range n).filter fun d => decide (nth part d = (p : Int))) = grpOf M n := by
  have hex : ∀ q, ∃ d, q < parts → d < n ∧ nth part d = (q : Int) ∧ ∀ e, e < d → nth part e < (q : Int) := fun q => by
    by_cases h : q < parts
    · obtain ⟨d, hd⟩ := ho q h; exact ⟨d, fun _ => hd⟩
    · exact ⟨0, fun g => absurd g h⟩
  obtain ⟨ld, hld⟩ := Classical.axiomOfChoice hex
  have hmono : ∀ p q, p < q → q < parts → ld p < ld q := fun p q hpq hq => by
    obtain ⟨a1, a2, a3⟩ := hld p (by omega)
    obtain ⟨b1, b2, b3⟩ := hld q hq
    rcases Nat.lt_trichotomy (ld p) (ld q) with g | g | g
    · exact g
    · rw [g] at a2; omega
    · have := a3 _ g; omega
  have hlead : (List.range parts).map ld = leadsN M n := by
    refine rising_eq ?_ ((range_rising n).sublist List.filter_sublist) fun x => ?_
    · rw [List.pairwise_map]
      refine (range_rising parts).imp_of_mem fun {a b} ha hb hab => hmono a b hab (List.mem_range.1 hb)
    · rw [mem_leadsN, List.mem_map]
      constructor
      · rintro ⟨p, hp, rfl⟩
        obtain ⟨a1, a2, a3⟩ := hld p (List.mem_range.1 hp)
        refine ⟨a1, fun d hd hc => ?_⟩
        have := (hl.iff d (ld p) (by omega) a1).2 hc
        have := a3 d hd
        omega
      · rintro ⟨hx, hn⟩
        obtain ⟨r1, r2⟩ := hl.range x hx
        have hp : (nth part x).toNat < parts := by omega
        obtain ⟨a1, a2, a3⟩ := hld _ hp
        have hc := (hl.iff (ld (nth part x).toNat) x a1 hx).1 (by omega)
        refine ⟨_, List.mem_range.2 hp, ?_⟩
        rcases Nat.lt_trichotomy (ld (nth part x).toNat) x with g | g | g
        · exact absurd hc (hn _ g)
        · exact g
        · have := a3 x g; omega
  unfold grpOf
  rw [← hlead, List.map_map]
  refine List.map_congr_left fun p hp => ?_
  obtain ⟨a1, a2, _⟩ := hld p (List.mem_range.1 hp)
  show _ = clsN M n (ld p)
  unfold clsN
  refine List.filter_congr fun d hd => ?_
  have hd := List.mem_range.1 hd
  rw [Bool.eq_iff_iff, decide_eq_true_eq, okC_iff, ← hl.iff (ld p) d a1 hd, a2]
  exact eq_comm
/-- The reference's parts. -/
theorem rgroups_eq {M : List Int} {n : Nat} (hm : MateOk M n) : ((List.range n).filter fun c => decide (nth (rlabel M n) c = (c : Int))).map (fun c : Nat => (List.range n).filter fun d => decide (nth (rlabel M n) d = (c : Int))) = grpOf M n := by
  have hlead : ((List.range n).filter fun c => decide (nth (rlabel M n) c = (c : Int))) = leadsN M n := by
    unfold leadsN
    refine List.filter_congr fun c hc => ?_
    have hc := List.mem_range.1 hc
    obtain ⟨d, d1, d2, d3, d4⟩ := rlabel_spec hm c hc
    rw [Bool.eq_iff_iff, decide_eq_true_eq, okC_iff, d1]
    constructor
    · intro e d' hd' hcd
      have := d4 d' (hm.conn_symm (by omega) hcd)
      omega
    · intro h
      have := d4 c (Conn.refl M c)
      rcases Nat.lt_or_ge d c with g | g
      · exact absurd (hm.conn_symm hc d3) (h d g)
      · omega
  unfold grpOf
  rw [hlead]
  refine List.map_congr_left fun c hc => ?_
  obtain ⟨c1, c2⟩ := mem_leadsN.1 hc
  unfold clsN
  refine List.filter_congr fun d hd => ?_
  have hd := List.mem_range.1 hd
  have hcl : nth (rlabel M n) c = (c : Int) := by
    have : c ∈ (List.range n).filter fun c => decide (nth (rlabel M n) c = (c : Int)) := by rw [hlead]; exact hc
    rw [List.mem_filter, decide_eq_true_eq] at this
    exact this.2
  rw [Bool.eq_iff_iff, decide_eq_true_eq, okC_iff, ← rlabel_iff hm c d c1 hd, hcl]
  exact eq_comm
/-- The number of a crossing within a list. -/
def idxI (G : List Nat) (c : Nat) : Nat := G.idxOf c
def partS (S : List Int) (G : List Nat) : List Int := G.map fun c => nth S c
def partV (M : List Int) (G : List Nat) (h : Nat) : Int := 4 * ((idxI G (mt M h / 4) : Nat) : Int) + ((mt M h % 4 : Nat) : Int)
def partM (M : List Int) (G : List Nat) : List Int := (List.range (4 * G.length)).map fun k => partV M G (4 * G.getD (k / 4) 0 + k % 4)
theorem partS_len (S : List Int) (G : List Nat) : (partS S G).length = G.length := by simp [partS]
theorem partM_len (M : List Int) (G : List Nat) : (partM M G).length = 4 * G.length := by simp [partM]
theorem partS_nth {S : List Int} {G : List Nat} {c : Nat} (h : c < G.length) : nth (partS S G) c = nth S (G.getD c 0) := by simp [partS, nth, h]
theorem partM_nth {M : List Int} {G : List Nat} {k : Nat} (h : k < 4 * G.length) : nth (partM M G) k = partV M G (4 * G.getD (k / 4) 0 + k % 4) := by simp [partM, nth, h]
/-- A whole set of parts. -/
structure Whole (M : List Int) (n : Nat) (G : List Nat) : Prop where
  lt : ∀ c ∈ G, c < n
  nd : G.Nodup
  cl : ∀ c ∈ G, ∀ d, Adj M c d → d ∈ G
section
variable {S M : List Int} {L : Int} (hv : vldB S M L = true) {G : List Nat} (hG : Whole M S.length G)
include hv hG
omit hv in
theorem part_get {c : Nat} (hc : c < G.length) : G.getD c 0 ∈ G ∧ idxI G (G.getD c 0) = c := by
  have e : G.getD c 0 = G[c] := by simp [hc]
  rw [e]
  exact ⟨List.getElem_mem hc, hG.nd.idxOf_getElem c hc⟩
theorem part_emb : Emb (partM M G) G.length M S.length (fun c => G.getD c 0) := by
  have _ := hv
  refine ⟨fun c hc => hG.lt _ (part_get hG hc).1, fun c d hc hd e => ?_, fun h hh => ?_⟩
  · rw [← (part_get hG hc).2, ← (part_get hG hd).2]
    exact congrArg (idxI G) e
  · have hg := part_get hG (c := h / 4) (by omega)
    have hin := hG.cl _ hg.1 (mt M (4 * G.getD (h / 4) 0 + h % 4) / 4) ⟨h % 4, by omega, rfl⟩
    have hi : idxI G (mt M (4 * G.getD (h / 4) 0 + h % 4) / 4) < G.length := List.idxOf_lt_length_iff.2 hin
    have e1 : mt (partM M G) h = 4 * idxI G (mt M (4 * G.getD (h / 4) 0 + h % 4) / 4) + mt M (4 * G.getD (h / 4) 0 + h % 4) % 4 := by
      have : mt (partM M G) h = (nth (partM M G) h).toNat := rfl
      rw [this, partM_nth hh]; unfold partV; omega
    have e2 : G.getD (idxI G (mt M (4 * G.getD (h / 4) 0 + h % 4) / 4)) 0 = mt M (4 * G.getD (h / 4) 0 + h % 4) / 4 := by
      have : G.getD (idxI G (mt M (4 * G.getD (h / 4) 0 + h % 4) / 4)) 0 = G[idxI G (mt M (4 * G.getD (h / 4) 0 + h % 4) / 4)] := by rw [List.getD_eq_getElem?_getD, List.getElem?_eq_getElem hi]; rfl
      rw [this]
      exact List.getElem_idxOf hi
    show mt M (4 * G.getD (h / 4) 0 + h % 4) = 4 * G.getD (mt (partM M G) h / 4) 0 + mt (partM M G) h % 4
    rw [e1, show (4 * idxI G (mt M (4 * G.getD (h / 4) 0 + h % 4) / 4) + mt M (4 * G.getD (h / 4) 0 + h % 4) % 4) / 4 = idxI G (mt M (4 * G.getD (h / 4) 0 + h % 4) / 4) by omega, e2]
    omega
theorem part_range : ∀ h, h < 4 * G.length → 0 ≤ nth (partM M G) h ∧ nth (partM M G) h < 4 * (G.length : Int) := fun h hh => by
  have _ := hv
  have hg := part_get hG (c := h / 4) (by omega)
  have hin := hG.cl _ hg.1 (mt M (4 * G.getD (h / 4) 0 + h % 4) / 4) ⟨h % 4, by omega, rfl⟩
  have hi : idxI G (mt M (4 * G.getD (h / 4) 0 + h % 4) / 4) < G.length := List.idxOf_lt_length_iff.2 hin
  rw [partM_nth hh]; unfold partV; omega
theorem part_out {h : Nat} (hh : h < 4 * G.length) : outB (partS S G) h = outB S (upE (fun c => G.getD c 0) h) := by
  have _ := hv
  have _ := hG
  unfold outB
  rw [upE_div, upE_mod, partS_nth (by omega)]
/-- A part of a diagram is a diagram. -/
theorem part_valid {L' : Int} (h0 : 0 ≤ L') (h64 : L' ≤ 64) : vldB (partS S G) (partM M G) L' = true := by
  obtain ⟨hs, hsp⟩ := vldB_iff.1 hv
  have hm := hs.mates2
  have E := part_emb hv hG
  have hr := part_range hv hG
  have hm' := E.mates hm hr
  have hfew : G.length ≤ S.length := by
    have := hG.nd.length_le_of_subset (l₂ := List.range S.length) fun c hc => List.mem_range.2 (hG.lt c hc)
    simpa using this
  refine vldB_iff.2 ⟨⟨by rw [partS_len]; have := hs.few; omega, by rw [partM_len, partS_len], h0, h64, fun c hc => ?_, fun h hh => ?_⟩, by rw [partS_len]; exact E.sph hm' hm hsp⟩
  · rw [partS_len] at hc
    rw [partS_nth hc]
    exact hs.sign _ (hG.lt _ (part_get hG hc).1)
  · rw [partS_len] at hh ⊢
    have r := hr h hh
    have i := hm'.ok.inv h hh
    have ne := hm'.ne h hh
    refine ⟨r.1, r.2, fun e => ne (by unfold mt; omega), i, ?_⟩
    show outB (partS S G) h ≠ outB (partS S G) (mt (partM M G) h)
    rw [part_out hv hG hh, part_out hv hG (hm'.lt hh), ← E.mate h hh, hs.out_mt (E.up_lt hh)]
    cases outB S (upE (fun c => G.getD c 0) h) <;> decide
end
/-- A part that is told by its least crossing is whole. -/
theorem whole_cls {M : List Int} {n : Nat} (hm : MateOk M n) (c : Nat) : Whole M n (clsN M n c) :=
  ⟨fun _ h => (mem_clsN.1 h).1, List.nodup_range.sublist List.filter_sublist, fun a ha b hab => by
    obtain ⟨a1, a2⟩ := mem_clsN.1 ha
    exact mem_clsN.2 ⟨hm.adj_lt a1 hab, a2.step hab⟩⟩
/-- An orbit that leaves a set comes back. -/
theorem orb_return {f : Nat → Nat} {N : Nat} (hf : Inj f N) (P : Nat → Prop) {x : Nat} (hx : x < N) (h1 : P x) (h2 : ¬ P (f x)) : ∃ z, OnOrb f x z ∧ z < N ∧ ¬ P z ∧ P (f z) := by
  have hp := perOf_all hf x hx
  have key : ∀ k, P (iter f (k + 1) x) → ∃ j, j < k + 1 ∧ ¬ P (iter f j x) ∧ P (f (iter f j x)) := fun k => by
    induction k with
    | zero => intro h; exact absurd h h2
    | succ k ih =>
      intro h
      by_cases g : P (iter f (k + 1) x)
      · obtain ⟨j, _, b⟩ := ih g
        exact ⟨j, by omega, b⟩
      · exact ⟨k + 1, by omega, g, by rw [iter_succ] at h; exact h⟩
  obtain ⟨j, _, b, c⟩ := key (perOf f N x - 1) (by rw [show perOf f N x - 1 + 1 = perOf f N x by have := hp.1; omega, hp.2.1]; exact h1)
  exact ⟨_, ⟨j, rfl⟩, iter_lt f N hf.lt j x hx, b, c⟩
/-- An edge other than two leads from c to d. -/
def AdjW (M : List Int) (x y c d : Nat) : Prop := ∃ s, s < 4 ∧ 4 * c + s ≠ x ∧ mt M (4 * c + s) ≠ x ∧ 4 * c + s ≠ y ∧ mt M (4 * c + s) ≠ y ∧ mt M (4 * c + s) / 4 = d
def ConnW (M : List Int) (x y c d : Nat) : Prop := ∀ Q : Nat → Prop, Q c → (∀ a b, Q a → AdjW M x y a b → Q b) → Q d
theorem ConnW.refl (M : List Int) (x y c : Nat) : ConnW M x y c c := fun _ h _ => h
theorem ConnW.trans {M : List Int} {x y a b c : Nat} (h1 : ConnW M x y a b) (h2 : ConnW M x y b c) : ConnW M x y a c := fun Q h hs => h2 Q (h1 Q h hs) hs
theorem ConnW.step {M : List Int} {x y a b c : Nat} (h1 : ConnW M x y a b) (h : AdjW M x y b c) : ConnW M x y a c := fun Q h0 hs => hs b c (h1 Q h0 hs) h
theorem ConnW.conn {M : List Int} {x y a b : Nat} (h : ConnW M x y a b) : Conn M a b := fun Q h0 hs => h Q h0 fun c d hc ⟨s, h4, _, _, _, _, e⟩ => hs c d hc ⟨s, h4, e⟩
section
variable {S M : List Int} {L : Int} (hv : vldB S M L = true) {x y : Nat} (hx : x < 4 * S.length) (hy : y < 4 * S.length) (hox : outB S x = true) (hoy : outB S y = true) (hxy : x ≠ y)
include hv hx hy hox hoy hxy
/-- An end that is lost makes a cut. -/
theorem lost_cut (hno : ¬ ConnW M x y (x / 4) (mt M x / 4)) : OnOrb (fc M) x y ∧ OnOrb (fc M) (mt M x) (mt M y) := by
  have _ := hxy
  obtain ⟨hs, _⟩ := vldB_iff.1 hv
  have hm := hs.mates2
  have hp := hm.inv hx
  have hq := hm.inv hy
  have o1 := hs.out_mt hx
  have o2 := hs.out_mt hy
  -- edges that leave the set are the two
  have out : ∀ z, z < 4 * S.length → ConnW M x y (x / 4) (z / 4) → ¬ ConnW M x y (x / 4) (mt M z / 4) → z = x ∨ mt M z = x ∨ z = y ∨ mt M z = y := fun z hz h1 h2 => by
    refine Classical.byContradiction fun h => h2 (h1.step ⟨z % 4, by omega, ?_⟩)
    rw [show 4 * (z / 4) + z % 4 = z by omega]
    exact ⟨fun e => h (.inl e), fun e => h (.inr (.inl e)), fun e => h (.inr (.inr (.inl e))), fun e => h (.inr (.inr (.inr e))), rfl⟩
  have inn : ∀ z, z < 4 * S.length → ¬ ConnW M x y (x / 4) (z / 4) → ConnW M x y (x / 4) (mt M z / 4) → z = x ∨ mt M z = x ∨ z = y ∨ mt M z = y := fun z hz h1 h2 => by
    have h3 := out (mt M z) (hm.lt hz) h2 (by rw [hm.inv hz]; exact h1)
    rw [hm.inv hz] at h3
    rcases h3 with h | h | h | h
    · exact .inr (.inl h)
    · exact .inl h
    · exact .inr (.inr (.inr h))
    · exact .inr (.inr (.inl h))
  have hxA := ConnW.refl M x y (x / 4)
  -- the strand comes back through y
  obtain ⟨z, z1, z2, z3, z4⟩ := orb_return hs.injS (fun u => ConnW M x y (x / 4) (u / 4)) hx hxA (by
    rw [show sc M x = tn (mt M x) 2 from rfl, tn_div]; exact hno)
  rw [show sc M z = tn (mt M z) 2 from rfl, tn_div] at z4
  have zo := hs.out_orb hx z1
  have zy : z = y := by
    rcases inn z z2 z3 z4 with h | h | h | h
    · exact absurd (by rw [h]; exact hxA) z3
    · have := hs.out_mt z2
      rw [h, hox, zo, hox] at this; cases this
    · exact h
    · have := hs.out_mt z2
      rw [h, hoy, zo, hox] at this; cases this
  rw [zy] at z3 z4
  -- the faces
  obtain ⟨u, u1, u2, u3, u4⟩ := orb_return hm.inj (fun u => ConnW M x y (x / 4) (u / 4)) hx hxA (by
    rw [show fc M x = tn (mt M x) (-1) from rfl, tn_div]; exact hno)
  rw [show fc M u = tn (mt M u) (-1) from rfl, tn_div] at u4
  obtain ⟨v, v1, v2, v3, v4⟩ := orb_return hm.inj (fun u => ¬ ConnW M x y (x / 4) (u / 4)) (hm.lt hx) hno (by
    rw [show fc M (mt M x) = tn (mt M (mt M x)) (-1) from rfl, tn_div, hp]; exact fun h => h hxA)
  rw [show fc M v = tn (mt M v) (-1) from rfl, tn_div] at v4
  have v3 : ConnW M x y (x / 4) (v / 4) := Classical.byContradiction v3
  have hne := face_ne hv hx
  constructor
  · rcases inn u u2 u3 u4 with h | h | h | h
    · exact absurd (by rw [h]; exact hxA) u3
    · have : u = mt M x := by rw [← h, hm.inv u2]
      rw [this] at u1
      exact absurd u1 hne
    · rw [← h]; exact u1
    · have : u = mt M y := by rw [← h, hm.inv u2]
      rw [this] at u3
      exact absurd z4 u3
  · rcases out v v2 v3 v4 with h | h | h | h
    · rw [h] at v1
      exact absurd (onOrb_symm hm.inj (hm.lt hx) v1) hne
    · have : v = mt M x := by rw [← h, hm.inv v2]
      rw [this] at v3
      exact absurd v3 hno
    · rw [h] at v3
      exact absurd v3 z3
    · have : v = mt M y := by rw [← h, hm.inv v2]
      rw [← this]; exact v1
end
end Go.Proofs.YtmjoijfafachhaaGreatDoor


