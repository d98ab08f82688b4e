/- Plain laws: a diagram within another one, edges crossed, unions, the parts as lists, cuts. What a walk knows of the memory that its call made: blocks, each with what it holds; slices that grow. Append of elements of k cells; two pairs of numbers compared. -/
import Derived.WalkKit
import Derived.WalkSpells
import Derived.WalkLawsBesides
import Derived.Deep.AppendSrc
import Derived.Deep.LoopGhost
import Derived.Deep.QuietTactic
import Derived.Deep.RegionWith
import Derived.Deep.DeepMust
import Derived.Deep.DeepFit
import Derived.BigQuiet
import Derived.Lib.Hide
import Derived.Outline
import Derived.Test.YtmhhjchnjaefhaaDoorProg
import Derived.Deep.Matrix
import Derived.Deep.DeepCutAuto
import Derived.Deep.RegionLaw
import Derived.Deep.RegionHeld3
import Derived.Test.YtmhhjchnjaefhaaDoorFbAa
import Derived.Test.YtmhhjchnjaefhaaDoorFbAc
import Derived.Test.YtmhhjchnjaefhaaDoorFbAd
import Derived.Test.YtmhhjchnjaefhaaDoorFbAe
import Derived.Test.YtmhhjchnjaefhaaDoorFbAf
import Derived.Test.YtmhhjchnjaefhaaDoorFbAg
import Derived.Test.YtmhhjchnjaefhaaDoorFbAh
namespace Go.Proofs.YtmhhjchnjaefhaaDoor
open Go Go.RowKit
/-- The half-edge of the greater diagram. -/
def upE (e : Nat → Nat) (h : Nat) : Nat := 4 * e (h / 4) + h % 4
theorem upE_div (e : Nat → Nat) (h : Nat) : upE e h / 4 = e (h / 4) := by unfold upE; omega
theorem upE_mod (e : Nat → Nat) (h : Nat) : upE e h % 4 = h % 4 := by unfold upE; omega
theorem upE_tn (e : Nat → Nat) (h : Nat) (b : Int) : tn (upE e h) b = upE e (tn h b) := by
  have h1 : tn (upE e h) b = 4 * e (h / 4) + (((h % 4 : Nat) : Int) + b + 8).toNat % 4 := by
    unfold tn; rw [upE_div, upE_mod]
  have h2 : upE e (tn h b) = 4 * e (h / 4) + (((h % 4 : Nat) : Int) + b + 8).toNat % 4 := by
    show 4 * e (tn h b / 4) + tn h b % 4 = _
    rw [tn_div, tn_mod]
  rw [h1, h2]
/-- Crossing c of M' is crossing e c of M, with all its mates. -/
structure Emb (M' : List Int) (n' : Nat) (M : List Int) (n : Nat) (e : Nat → Nat) : Prop where
  lt : ∀ c, c < n' → e c < n
  inj : ∀ c d, c < n' → d < n' → e c = e d → c = d
  mate : ∀ h, h < 4 * n' → mt M (upE e h) = upE e (mt M' h)
namespace Emb
variable {M' M : List Int} {n' n : Nat} {e : Nat → Nat} (E : Emb M' n' M n e)
include E
theorem up_lt {h : Nat} (hh : h < 4 * n') : upE e h < 4 * n := by
  have h1 := upE_div e h
  have h2 := E.lt (h / 4) (by omega)
  omega
theorem up_inj {x y : Nat} (hx : x < 4 * n') (hy : y < 4 * n') (he : upE e x = upE e y) : x = y := by
  have h1 := upE_div e x
  have h2 := upE_div e y
  have h3 := upE_mod e x
  have h4 := upE_mod e y
  have h5 := E.inj (x / 4) (y / 4) (by omega) (by omega) (by rw [← h1, ← h2, he])
  rw [he] at h3
  omega
theorem face {h : Nat} (hh : h < 4 * n') : fc M (upE e h) = upE e (fc M' h) := by
  show tn (mt M (upE e h)) (-1) = upE e (tn (mt M' h) (-1))
  rw [E.mate h hh, upE_tn]
theorem iter_up (hm' : Mates M' n') {h : Nat} (hh : h < 4 * n') (k : Nat) : iter (fc M) k (upE e h) = upE e (iter (fc M') k h) := by
  induction k with
  | zero => rfl
  | succ k ih => rw [iter_succ, iter_succ, ih, E.face (iter_lt _ _ hm'.inj.lt k h hh)]
theorem orb_iff (hm' : Mates M' n') {x y : Nat} (hx : x < 4 * n') (hy : y < 4 * n') : OnOrb (fc M) (upE e x) (upE e y) ↔ OnOrb (fc M') x y := by
  constructor
  · rintro ⟨k, hk⟩
    rw [E.iter_up hm' hx] at hk
    exact ⟨k, E.up_inj (iter_lt _ _ hm'.inj.lt k x hx) hy hk⟩
  · rintro ⟨k, rfl⟩
    exact ⟨k, E.iter_up hm' hx k⟩
theorem conn_to (hm' : Mates M' n') {c d : Nat} (hc : c < n') (h : Conn M' c d) : Conn M (e c) (e d) := fun Q h0 hs =>
  (h (fun x => x < n' ∧ Q (e x)) ⟨hc, h0⟩ fun x y ⟨hx, hq⟩ hxy => by
    obtain ⟨s, hs4, rfl⟩ := hxy
    have hl : 4 * x + s < 4 * n' := by omega
    refine ⟨by have := hm'.lt hl; unfold mt at this; omega, hs (e x) _ hq ⟨s, hs4, ?_⟩⟩
    have h1 := E.mate (4 * x + s) hl
    have h2 : upE e (4 * x + s) = 4 * e x + s := by unfold upE; rw [show (4 * x + s) / 4 = x by omega]; omega
    rw [h2] at h1
    show mt M (4 * e x + s) / 4 = _
    rw [h1, upE_div]; rfl).2
theorem conn_back (hm' : Mates M' n') {c z : Nat} (hc : c < n') (h : Conn M (e c) z) : ∃ d, d < n' ∧ e d = z ∧ Conn M' c d :=
  h (fun z => ∃ d, d < n' ∧ e d = z ∧ Conn M' c d) ⟨c, hc, rfl, Conn.refl M' c⟩ fun x y ⟨d, hd, hx, hcd⟩ hxy => by
    obtain ⟨s, hs4, rfl⟩ := hxy
    subst hx
    have hl : 4 * d + s < 4 * n' := by omega
    have h1 := E.mate (4 * d + s) hl
    have h2 : upE e (4 * d + s) = 4 * e d + s := by unfold upE; rw [show (4 * d + s) / 4 = d by omega]; omega
    rw [h2] at h1
    have h3 : mt M (4 * e d + s) / 4 = e (mt M' (4 * d + s) / 4) := by rw [h1, upE_div]
    refine ⟨mt M' (4 * d + s) / 4, by have := hm'.lt hl; omega, h3.symm, hcd.step ⟨s, hs4, rfl⟩⟩
theorem conn_iff (hm' : Mates M' n') {c d : Nat} (hc : c < n') (hd : d < n') : Conn M (e c) (e d) ↔ Conn M' c d := by
  refine ⟨fun h => ?_, E.conn_to hm' hc⟩
  obtain ⟨d', h1, h2, h3⟩ := E.conn_back hm' hc h
  rwa [E.inj d' d h1 hd h2] at h3
theorem VC_eq (hm' : Mates M' n') {c : Nat} (hc : c < n') : VC M' n' c = VC M n (e c) := by
  classical
  refine Nat.le_antisymm ?_ ?_
  · refine cnt_inj e (fun x hx hp => ⟨E.lt x hx, ?_⟩) (fun x y hx hy _ _ he => E.inj x y hx hy he)
    rw [decide_eq_true_eq] at hp ⊢
    exact E.conn_to hm' hc hp
  · have hex : ∀ z, ∃ d, Conn M (e c) z → d < n' ∧ e d = z ∧ Conn M' c d := fun z => by
      by_cases h : Conn M (e c) z
      · obtain ⟨d, hd⟩ := E.conn_back hm' hc h
        exact ⟨d, fun _ => hd⟩
      · exact ⟨0, fun g => absurd g h⟩
    obtain ⟨ch, hch⟩ := Classical.axiomOfChoice hex
    refine cnt_inj ch (fun x _ hp => ?_) (fun x y _ _ hpx hpy he => ?_)
    · rw [decide_eq_true_eq] at hp ⊢
      exact ⟨(hch x hp).1, (hch x hp).2.2⟩
    · rw [decide_eq_true_eq] at hpx hpy
      rw [← (hch x hpx).2.1, ← (hch y hpy).2.1, he]
theorem FC_eq (hm' : Mates M' n') (hm : Mates M n) {c : Nat} (hc : c < n') : FC M' n' c = FC M n (e c) := by
  classical
  have e1 : FC M' n' c = nc (OnOrb (fc M')) (fun h => decide (Conn M' c (h / 4))) (4 * n') := nc_orb hm'.inj _
  have e2 : FC M n (e c) = nc (OnOrb (fc M)) (fun h => decide (Conn M (e c) (h / 4))) (4 * n) := nc_orb hm.inj _
  rw [e1, e2]
  have keep : ∀ (N : Nat) (f : Nat → Nat) (P : Nat → Bool), (∀ x, x < N → f x < N) → (∀ x, x < N → P (f x) = P x) → ∀ x y, x < N → OnOrb f x y → P x = true → P y = true := by
    rintro N f P hl hp x y hx ⟨k, rfl⟩ h
    induction k with
    | zero => exact h
    | succ k ih => rw [iter_succ, hp _ (iter_lt f N hl k x hx)]; exact ih
  refine Nat.le_antisymm ?_ ?_
  · refine nc_le (orb_eqv hm'.inj) (orb_eqv hm.inj) (fun x y hx _ ho hp => keep _ _ (fun h => decide (Conn M (e c) (h / 4))) hm.inj.lt (fun x hx => decide_eq_decide.2 (hm.conn_fc hx)) x y hx ho hp) (upE e) (fun x hx hp => ⟨E.up_lt hx, ?_⟩) (fun x y hx hy _ _ ho => (E.orb_iff hm' hx hy).1 ho)
    rw [decide_eq_true_eq] at hp ⊢
    rw [upE_div]
    exact E.conn_to hm' hc hp
  · have hex : ∀ z, ∃ x, z < 4 * n → Conn M (e c) (z / 4) → x < 4 * n' ∧ upE e x = z ∧ Conn M' c (x / 4) := fun z => by
      by_cases h : Conn M (e c) (z / 4)
      · obtain ⟨d, h1, h2, h3⟩ := E.conn_back hm' hc h
        refine ⟨4 * d + z % 4, fun _ _ => ⟨by omega, ?_, by rw [show (4 * d + z % 4) / 4 = d by omega]; exact h3⟩⟩
        unfold upE
        rw [show (4 * d + z % 4) / 4 = d by omega, h2]; omega
      · exact ⟨0, fun _ g => absurd g h⟩
    obtain ⟨ch, hch⟩ := Classical.axiomOfChoice hex
    refine nc_le (orb_eqv hm.inj) (orb_eqv hm'.inj) (fun x y hx _ ho hp => keep _ _ (fun h => decide (Conn M' c (h / 4))) hm'.inj.lt (fun x hx => decide_eq_decide.2 (hm'.conn_fc hx)) x y hx ho hp) ch (fun x hx hp => ?_) (fun x y hx hy hpx hpy ho => ?_)
    · rw [decide_eq_true_eq] at hp ⊢
      exact ⟨(hch x hx hp).1, (hch x hx hp).2.2⟩
    · rw [decide_eq_true_eq] at hpx hpy
      obtain ⟨a1, a2, _⟩ := hch x hx hpx
      obtain ⟨b1, b2, _⟩ := hch y hy hpy
      rw [← a2, ← b2]
      exact (E.orb_iff hm' a1 b1).2 ho
/-- Parts of a sphere are spheres. -/
theorem sph (hm' : Mates M' n') (hm : Mates M n) (hs : Sph M n) : Sph M' n' := fun c hc => by
  rw [E.FC_eq hm' hm hc, E.VC_eq hm' hc]
  exact hs (e c) (E.lt c hc)
/-- What lies within a diagram in order is in order. -/
theorem mates (hm : Mates M n) (hr : ∀ h, h < 4 * n' → 0 ≤ nth M' h ∧ nth M' h < 4 * (n' : Int)) : Mates M' n' := by
  have hlt : ∀ h, h < 4 * n' → mt M' h < 4 * n' := fun h hh => by have := hr h hh; unfold mt; omega
  refine ⟨⟨hr, fun h hh => ?_⟩, fun x hx he => ?_⟩
  · have h1 := E.mate h hh
    have h2 := E.mate (mt M' h) (hlt h hh)
    rw [← h1, hm.inv (E.up_lt hh)] at h2
    have h3 := E.up_inj hh (hlt _ (hlt h hh)) h2
    have h4 := hr _ (hlt h hh)
    unfold mt at h3 h4
    omega
  · have h1 := E.mate x hx
    have he : mt M' x = x := he
    rw [he] at h1
    exact hm.ne _ (E.up_lt hx) h1
end Emb
def uniM (A B : List Int) : List Int := A ++ B.map fun m => (A.length : Int) + m
theorem uniM_len (A B : List Int) : (uniM A B).length = A.length + B.length := by simp [uniM]
theorem uniM_left {A B : List Int} {h : Nat} (hh : h < A.length) : nth (uniM A B) h = nth A h := nth_append_left _ _ _ hh
theorem uniM_right {A B : List Int} {h : Nat} (hh : h < B.length) : nth (uniM A B) (A.length + h) = (A.length : Int) + nth B h := by
  unfold uniM
  rw [nth_append_right _ _ _ (by omega), Nat.add_sub_cancel_left]
  simp [nth, hh]
/-- Does it hold? -/
noncomputable def okC (p : Prop) : Bool := @decide p (Classical.propDecidable p)
theorem okC_iff {p : Prop} : okC p = true ↔ p := @decide_eq_true_iff p (Classical.propDecidable p)
/-- The least crossings of the parts. -/
noncomputable def leadsN (M : List Int) (n : Nat) : List Nat := (List.range n).filter fun c => okC (∀ d, d < c → ¬ Conn M d c)
noncomputable def clsN (M : List Int) (n c : Nat) : List Nat := (List.range n).filter fun d => okC (Conn M c d)
/-- The parts. -/
noncomputable def grpOf (M : List Int) (n : Nat) : List (List Nat) := (leadsN M n).map (clsN M n)
theorem mem_leadsN {M : List Int} {n c : Nat} : c ∈ leadsN M n ↔ c < n ∧ ∀ d, d < c → ¬ Conn M d c := by
  unfold leadsN
  rw [List.mem_filter, List.mem_range, okC_iff]
theorem mem_clsN {M : List Int} {n c d : Nat} : d ∈ clsN M n c ↔ d < n ∧ Conn M c d := by
  unfold clsN
  rw [List.mem_filter, List.mem_range, okC_iff]
/-- What a round of label leaves. -/
theorem LbOut.round_keep {M : List Int} {n c : Nat} {st : List Int × Int} (hm : MateOk M n) (h : LbOut M n c st) (hc : c < n) (hn : n ≤ 1000) : ∃ st', lbRound M 1000000 c st = some st' ∧ (st' = st ∧ 0 ≤ nth st.1 c ∨ st'.2 = st.2 + 1 ∧ nth st'.1 c = st.2 ∧ ∀ d, d < n → 0 ≤ nth st.1 d → nth st'.1 d = nth st.1 d) := by
  unfold lbRound
  by_cases hneg : 0 ≤ nth st.1 c
  · rw [if_pos hneg]; exact ⟨st, rfl, .inl ⟨rfl, hneg⟩⟩
  · rw [if_neg hneg]
    have hlen := h.base.len
    have hset := fun j => nth_set st.1 c j st.2 (by rw [hlen]; exact hc)
    have hinv : LbInv M n st.2 c st.1 (st.1.set c st.2, [(c : Int)]) := by
      refine ⟨by simpa using hlen, ?_, ?_, ?_⟩
      · intro x hx
        simp only [List.mem_singleton] at hx
        subst hx
        exact ⟨c, rfl, hc, by simp only; rw [hset, if_pos rfl]⟩
      · intro d hd hnn
        simp only
        rw [hset]
        split
        · rename_i e; subst e; omega
        · rfl
      · intro d hd
        simp only
        rw [hset]
        split
        · rename_i e; subst e; exact .inr ⟨rfl, Conn.refl M c⟩
        · exact .inl rfl
    have hng : negs (st.1.set c st.2) + 1 ≤ 1000000 := by
      have := negs_le (st.1.set c st.2)
      rw [List.length_set, hlen] at this
      omega
    obtain ⟨part, k1, k2, k3, k4⟩ := LbInv.queue hm h.lo h.base 1000000 _ hinv (by simpa using hng) (by
        intro b hb hbp
        simp only at hbp ⊢
        rw [hset] at hbp
        split at hbp
        · rename_i e; subst e; exact .inl (by simp)
        · have := h.base.lt b hb; omega) (by
        intro x hx b hxb
        simp only [List.mem_singleton] at hx
        have : b = c := by omega
        subst this
        exact Conn.refl M _)
    rw [k1]
    refine ⟨_, rfl, .inr ⟨rfl, ?_, fun d hd h0 => ?_⟩⟩
    · have := k4 c hc (by simp only; rw [hset, if_pos rfl]; exact h.lo)
      simp only at this ⊢
      rw [this, hset, if_pos rfl]
    · have := k2.old d hd h0
      simpa using this
/-- The numbers come in the order of their first crossings. -/
def LbOrd (c : Nat) (st : List Int × Int) : Prop := ∀ q : Nat, (q : Int) < st.2 → ∃ d, d < c ∧ nth st.1 d = (q : Int) ∧ ∀ e, e < d → nth st.1 e < (q : Int)
theorem label_ord {M : List Int} {n : Nat} (hm : MateOk M n) (hn : n ≤ 1000) : ∀ (k c : Nat) (st : List Int × Int), LbOut M n c st → LbOrd c st → c + k = n → ∀ r, lbOuter M 1000000 k c st = some r → LbOrd n r := by
  intro k
  induction k with
  | zero =>
    intro c st h ho hc r hr
    have e : c = n := by omega
    subst e
    have hr : some st = some r := hr
    cases hr
    exact ho
  | succ k ih =>
    intro c st h ho hc r hr
    obtain ⟨st1, h1, h2⟩ := h.round hm (by omega) hn
    obtain ⟨st1', h1', h3⟩ := h.round_keep hm (by omega) hn
    rw [h1] at h1'
    cases h1'
    rw [lbOuter, h1] at hr
    refine ih (c + 1) st1 h2 (fun q hq => ?_) (by omega) r hr
    rcases h3 with ⟨rfl, _⟩ | ⟨e1, e2, e3⟩
    · obtain ⟨d, d1, d2, d3⟩ := ho q hq
      exact ⟨d, by omega, d2, d3⟩
    · by_cases g : (q : Int) < st.2
      · obtain ⟨d, d1, d2, d3⟩ := ho q g
        refine ⟨d, by omega, by rw [e3 d (by omega) (by omega)]; exact d2, fun e he => ?_⟩
        rw [e3 e (by omega) (h.seen e (by omega))]
        exact d3 e he
      · refine ⟨c, by omega, by omega, fun e he => ?_⟩
        rw [e3 e (by omega) (h.seen e he)]
        have := h.base.lt e (by omega)
        omega
theorem label_ordered {M : List Int} {n : Nat} (hm : MateOk M n) (hn : n ≤ 1000) {part : List Int} {parts : Nat} (h : lbOuter M 1000000 n 0 (List.replicate n (-1), 0) = some (part, (parts : Int))) : ∀ q, q < parts → ∃ d, d < n ∧ nth part d = (q : Int) ∧ ∀ e, e < d → nth part e < (q : Int) := by
  have h0 : LbOut M n 0 (List.replicate n (-1), 0) := by
    have hr : ∀ d, d < n → nth (List.replicate n (-1 : Int)) d = -1 := fun d hd => nth_replicate n d (-1) hd
    refine ⟨⟨by simp, fun d hd => ?_, fun c d hc _ hnn => ?_⟩, Int.le_refl _, Int.le_refl _, fun d hd => ?_, fun d hd => by omega, fun a b ha _ hnn => ?_, fun q hq => ?_⟩
    · simp only; rw [hr d hd]; omega
    · simp only at hnn; rw [hr c hc] at hnn; omega
    · simp only; rw [hr d hd]; omega
    · simp only at hnn; rw [hr a ha] at hnn; omega
    · simp only at hq; omega
  have := label_ord hm hn n 0 _ h0 (fun q hq => by simp only at hq; omega) (by omega) _ h
  exact fun q hq => this q (by simp only; omega)
/-- Two rising lists with the same members are one. -/
theorem rising_eq {l r : List Nat} (hl : l.Pairwise (· < ·)) (hr : r.Pairwise (· < ·)) (h : ∀ x, x ∈ l ↔ x ∈ r) : l = r := by
  have nl : l.Nodup := hl.imp fun e => Nat.ne_of_lt e
  have nr : r.Nodup := hr.imp fun e => Nat.ne_of_lt e
  exact ((List.perm_ext_iff_of_nodup nl nr).2 h).eq_of_pairwise (fun _ _ _ _ a b => absurd a (Nat.lt_asymm b)) hl hr
theorem range_rising (n : Nat) : (List.range n).Pairwise (· < ·) := List.pairwise_lt_range
/-- The crossings that bear number p, and the parts: the same lists. -/
theorem groups_eq {M : List Int} {n : Nat} {part : List Int} {parts : Nat} (hl : Labels M n part parts) (ho : ∀ q, q < parts → ∃ d, d < n ∧ nth part d = (q : Int) ∧ ∀ e, e < d → nth part e < (q : Int)) :
    (List.range parts).map (fun p : Nat => (List.range n).filter fun d => decide (nth part d = (p : Int))) = grpOf M n := by
  have hex : ∀ q, ∃ d, q < parts → d < n ∧ nth part d = (q : Int) ∧ ∀ e, e < d → nth part e < (q : Int) := fun q => by
    by_cases h : q < parts
    · obtain ⟨d, hd⟩ := ho q h; exact ⟨d, fun _ => hd⟩
    · exact ⟨0, fun g => absurd g h⟩
  obtain ⟨ld, hld⟩ := Classical.axiomOfChoice hex
  have hmono : ∀ p q, p < q → q < parts → ld p < ld q := fun p q hpq hq => by
    obtain ⟨a1, a2, a3⟩ := hld p (by omega)
    obtain ⟨b1, b2, b3⟩ := hld q hq
    rcases Nat.lt_trichotomy (ld p) (ld q) with g | g | g
    · exact g
    · rw [g] at a2; omega
    · have := a3 _ g; omega
  have hlead : (List.range parts).map ld = leadsN M n := by
    refine rising_eq ?_ ((range_rising n).sublist List.filter_sublist) fun x => ?_
    · rw [List.pairwise_map]
      refine (range_rising parts).imp_of_mem fun {a b} ha hb hab => hmono a b hab (List.mem_range.1 hb)
    · rw [mem_leadsN, List.mem_map]
      constructor
      · rintro ⟨p, hp, rfl⟩
        obtain ⟨a1, a2, a3⟩ := hld p (List.mem_range.1 hp)
        refine ⟨a1, fun d hd hc => ?_⟩
        have := (hl.iff d (ld p) (by omega) a1).2 hc
        have := a3 d hd
        omega
      · rintro ⟨hx, hn⟩
        obtain ⟨r1, r2⟩ := hl.range x hx
        have hp : (nth part x).toNat < parts := by omega
        obtain ⟨a1, a2, a3⟩ := hld _ hp
        have hc := (hl.iff (ld (nth part x).toNat) x a1 hx).1 (by omega)
        refine ⟨_, List.mem_range.2 hp, ?_⟩
        rcases Nat.lt_trichotomy (ld (nth part x).toNat) x with g | g | g
        · exact absurd hc (hn _ g)
        · exact g
        · have := a3 x g; omega
  unfold grpOf
  rw [← hlead, List.map_map]
  refine List.map_congr_left fun p hp => ?_
  obtain ⟨a1, a2, _⟩ := hld p (List.mem_range.1 hp)
  show _ = clsN M n (ld p)
  unfold clsN
  refine List.filter_congr fun d hd => ?_
  have hd := List.mem_range.1 hd
  rw [Bool.eq_iff_iff, decide_eq_true_eq, okC_iff, ← hl.iff (ld p) d a1 hd, a2]
  exact eq_comm
/-- The reference's parts. -/
theorem rgroups_eq {M : List Int} {n : Nat} (hm : MateOk M n) : ((List.range n).filter fun c => decide (nth (rlabel M n) c = (c : Int))).map (fun c : Nat => (List.range n).filter fun d => decide (nth (rlabel M n) d = (c : Int))) = grpOf M n := by
  have hlead : ((List.range n).filter fun c => decide (nth (rlabel M n) c = (c : Int))) = leadsN M n := by
    unfold leadsN
    refine List.filter_congr fun c hc => ?_
    have hc := List.mem_range.1 hc
    obtain ⟨d, d1, d2, d3, d4⟩ := rlabel_spec hm c hc
    rw [Bool.eq_iff_iff, decide_eq_true_eq, okC_iff, d1]
    constructor
    · intro e d' hd' hcd
      have := d4 d' (hm.conn_symm (by omega) hcd)
      omega
    · intro h
      have := d4 c (Conn.refl M c)
      rcases Nat.lt_or_ge d c with g | g
      · exact absurd (hm.conn_symm hc d3) (h d g)
      · omega
  unfold grpOf
  rw [hlead]
  refine List.map_congr_left fun c hc => ?_
  obtain ⟨c1, c2⟩ := mem_leadsN.1 hc
  unfold clsN
  refine List.filter_congr fun d hd => ?_
  have hd := List.mem_range.1 hd
  have hcl : nth (rlabel M n) c = (c : Int) := by
    have : c ∈ (List.range n).filter fun c => decide (nth (rlabel M n) c = (c : Int)) := by rw [hlead]; exact hc
    rw [List.mem_filter, decide_eq_true_eq] at this
    exact this.2
  rw [Bool.eq_iff_iff, decide_eq_true_eq, okC_iff, ← rlabel_iff hm c d c1 hd, hcl]
  exact eq_comm
/-- The number of a crossing within a list. -/
def idxI (G : List Nat) (c : Nat) : Nat := G.idxOf c
def partS (S : List Int) (G : List Nat) : List Int := G.map fun c => nth S c
def partV (M : List Int) (G : List Nat) (h : Nat) : Int := 4 * ((idxI G (mt M h / 4) : Nat) : Int) + ((mt M h % 4 : Nat) : Int)
def partM (M : List Int) (G : List Nat) : List Int := (List.range (4 * G.length)).map fun k => partV M G (4 * G.getD (k / 4) 0 + k % 4)
theorem partS_len (S : List Int) (G : List Nat) : (partS S G).length = G.length := by simp [partS]
theorem partM_len (M : List Int) (G : List Nat) : (partM M G).length = 4 * G.length := by simp [partM]
theorem partS_nth {S : List Int} {G : List Nat} {c : Nat} (h : c < G.length) : nth (partS S G) c = nth S (G.getD c 0) := by simp [partS, nth, h]
theorem partM_nth {M : List Int} {G : List Nat} {k : Nat} (h : k < 4 * G.length) : nth (partM M G) k = partV M G (4 * G.getD (k / 4) 0 + k % 4) := by simp [partM, nth, h]
/-- A whole set of parts. -/
structure Whole (M : List Int) (n : Nat) (G : List Nat) : Prop where
  lt : ∀ c ∈ G, c < n
  nd : G.Nodup
  cl : ∀ c ∈ G, ∀ d, Adj M c d → d ∈ G
section
variable {S M : List Int} {L : Int} (hv : vldB S M L = true) {G : List Nat} (hG : Whole M S.length G)
include hv hG
omit hv in
theorem part_get {c : Nat} (hc : c < G.length) : G.getD c 0 ∈ G ∧ idxI G (G.getD c 0) = c := by
  have e : G.getD c 0 = G[c] := by simp [hc]
  rw [e]
  exact ⟨List.getElem_mem hc, hG.nd.idxOf_getElem c hc⟩
theorem part_emb : Emb (partM M G) G.length M S.length (fun c => G.getD c 0) := by
  have _ := hv
  refine ⟨fun c hc => hG.lt _ (part_get hG hc).1, fun c d hc hd e => ?_, fun h hh => ?_⟩
  · rw [← (part_get hG hc).2, ← (part_get hG hd).2]
    exact congrArg (idxI G) e
  · have hg := part_get hG (c := h / 4) (by omega)
    have hin := hG.cl _ hg.1 (mt M (4 * G.getD (h / 4) 0 + h % 4) / 4) ⟨h % 4, by omega, rfl⟩
    have hi : idxI G (mt M (4 * G.getD (h / 4) 0 + h % 4) / 4) < G.length := List.idxOf_lt_length_iff.2 hin
    have e1 : mt (partM M G) h = 4 * idxI G (mt M (4 * G.getD (h / 4) 0 + h % 4) / 4) + mt M (4 * G.getD (h / 4) 0 + h % 4) % 4 := by
      have : mt (partM M G) h = (nth (partM M G) h).toNat := rfl
      rw [this, partM_nth hh]; unfold partV; omega
    have e2 : G.getD (idxI G (mt M (4 * G.getD (h / 4) 0 + h % 4) / 4)) 0 = mt M (4 * G.getD (h / 4) 0 + h % 4) / 4 := by
      have : G.getD (idxI G (mt M (4 * G.getD (h / 4) 0 + h % 4) / 4)) 0 = G[idxI G (mt M (4 * G.getD (h / 4) 0 + h % 4) / 4)] := by rw [List.getD_eq_getElem?_getD, List.getElem?_eq_getElem hi]; rfl
      rw [this]
      exact List.getElem_idxOf hi
    show mt M (4 * G.getD (h / 4) 0 + h % 4) = 4 * G.getD (mt (partM M G) h / 4) 0 + mt (partM M G) h % 4
    rw [e1, show (4 * idxI G (mt M (4 * G.getD (h / 4) 0 + h % 4) / 4) + mt M (4 * G.getD (h / 4) 0 + h % 4) % 4) / 4 = idxI G (mt M (4 * G.getD (h / 4) 0 + h % 4) / 4) by omega, e2]
    omega
theorem part_range : ∀ h, h < 4 * G.length → 0 ≤ nth (partM M G) h ∧ nth (partM M G) h < 4 * (G.length : Int) := fun h hh => by
  have _ := hv
  have hg := part_get hG (c := h / 4) (by omega)
  have hin := hG.cl _ hg.1 (mt M (4 * G.getD (h / 4) 0 + h % 4) / 4) ⟨h % 4, by omega, rfl⟩
  have hi : idxI G (mt M (4 * G.getD (h / 4) 0 + h % 4) / 4) < G.length := List.idxOf_lt_length_iff.2 hin
  rw [partM_nth hh]; unfold partV; omega
theorem part_out {h : Nat} (hh : h < 4 * G.length) : outB (partS S G) h = outB S (upE (fun c => G.getD c 0) h) := by
  have _ := hv
  have _ := hG
  unfold outB
  rw [upE_div, upE_mod, partS_nth (by omega)]
/-- A part of a diagram is a diagram. -/
theorem part_valid {L' : Int} (h0 : 0 ≤ L') (h64 : L' ≤ 64) : vldB (partS S G) (partM M G) L' = true := by
  obtain ⟨hs, hsp⟩ := vldB_iff.1 hv
  have hm := hs.mates2
  have E := part_emb hv hG
  have hr := part_range hv hG
  have hm' := E.mates hm hr
  have hfew : G.length ≤ S.length := by
    have := hG.nd.length_le_of_subset (l₂ := List.range S.length) fun c hc => List.mem_range.2 (hG.lt c hc)
    simpa using this
  refine vldB_iff.2 ⟨⟨by rw [partS_len]; have := hs.few; omega, by rw [partM_len, partS_len], h0, h64, fun c hc => ?_, fun h hh => ?_⟩, by rw [partS_len]; exact E.sph hm' hm hsp⟩
  · rw [partS_len] at hc
    rw [partS_nth hc]
    exact hs.sign _ (hG.lt _ (part_get hG hc).1)
  · rw [partS_len] at hh ⊢
    have r := hr h hh
    have i := hm'.ok.inv h hh
    have ne := hm'.ne h hh
    refine ⟨r.1, r.2, fun e => ne (by unfold mt; omega), i, ?_⟩
    show outB (partS S G) h ≠ outB (partS S G) (mt (partM M G) h)
    rw [part_out hv hG hh, part_out hv hG (hm'.lt hh), ← E.mate h hh, hs.out_mt (E.up_lt hh)]
    cases outB S (upE (fun c => G.getD c 0) h) <;> decide
end
/-- A part that is told by its least crossing is whole. -/
theorem whole_cls {M : List Int} {n : Nat} (hm : MateOk M n) (c : Nat) : Whole M n (clsN M n c) :=
  ⟨fun _ h => (mem_clsN.1 h).1, List.nodup_range.sublist List.filter_sublist, fun a ha b hab => by
    obtain ⟨a1, a2⟩ := mem_clsN.1 ha
    exact mem_clsN.2 ⟨hm.adj_lt a1 hab, a2.step hab⟩⟩
/-- An edge other than two leads from c to d. -/
def AdjW (M : List Int) (x y c d : Nat) : Prop := ∃ s, s < 4 ∧ 4 * c + s ≠ x ∧ mt M (4 * c + s) ≠ x ∧ 4 * c + s ≠ y ∧ mt M (4 * c + s) ≠ y ∧ mt M (4 * c + s) / 4 = d
def ConnW (M : List Int) (x y c d : Nat) : Prop := ∀ Q : Nat → Prop, Q c → (∀ a b, Q a → AdjW M x y a b → Q b) → Q d
theorem ConnW.refl (M : List Int) (x y c : Nat) : ConnW M x y c c := fun _ h _ => h
theorem ConnW.trans {M : List Int} {x y a b c : Nat} (h1 : ConnW M x y a b) (h2 : ConnW M x y b c) : ConnW M x y a c := fun Q h hs => h2 Q (h1 Q h hs) hs
theorem ConnW.step {M : List Int} {x y a b c : Nat} (h1 : ConnW M x y a b) (h : AdjW M x y b c) : ConnW M x y a c := fun Q h0 hs => hs b c (h1 Q h0 hs) h
theorem ConnW.conn {M : List Int} {x y a b : Nat} (h : ConnW M x y a b) : Conn M a b := fun Q h0 hs => h Q h0 fun c d hc ⟨s, h4, _, _, _, _, e⟩ => hs c d hc ⟨s, h4, e⟩
end Go.Proofs.YtmhhjchnjaefhaaDoor


namespace Go.Proofs.YtmhhjchnjaefhaaDoor
open Go Go.RowKit
def nthO {α : Type} : List α → Nat → Option α
  | [], _ => none
  | x :: _, 0 => some x
  | _ :: l, k + 1 => nthO l k
def setO {α : Type} : List α → Nat → α → List α
  | [], _, _ => []
  | _ :: l, 0, y => y :: l
  | x :: l, k + 1, y => x :: setO l k y
theorem nthO_mem {α : Type} : ∀ {l : List α} {k : Nat} {x : α}, nthO l k = some x → x ∈ l
  | [], _, _, h => by cases h
  | y :: l, 0, x, h => by simp only [nthO, Option.some.injEq] at h; subst h; exact List.mem_cons_self
  | y :: l, k + 1, x, h => List.mem_cons_of_mem _ (nthO_mem (l := l) (k := k) h)
/-- What a relation that all pairs bear says of one place against the others. -/
theorem setO_pair {α : Type} {R : α → α → Prop} (hs : ∀ x y, R x y → R y x) : ∀ {l : List α} {k : Nat} {x y : α}, l.Pairwise R → nthO l k = some x → (∀ z, z ∈ l → R x z → R y z) → (setO l k y).Pairwise R ∧ ∀ z, z ∈ setO l k y → z = y ∨ (z ∈ l ∧ R x z)
  | [], _, _, _, _, h, _ => by cases h
  | a :: l, 0, x, y, hp, h, hy => by
    simp only [nthO, Option.some.injEq] at h
    subst h
    rw [List.pairwise_cons] at hp
    refine ⟨?_, fun z hz => ?_⟩
    · show (y :: l).Pairwise R
      rw [List.pairwise_cons]
      exact ⟨fun z hz => hy z (List.mem_cons_of_mem _ hz) (hp.1 z hz), hp.2⟩
    · rcases List.mem_cons.1 hz with e | e
      · exact .inl e
      · exact .inr ⟨List.mem_cons_of_mem _ e, hp.1 z e⟩
  | a :: l, k + 1, x, y, hp, h, hy => by
    rw [List.pairwise_cons] at hp
    have hx : x ∈ l := nthO_mem (l := l) (k := k) h
    obtain ⟨i1, i2⟩ := setO_pair hs (l := l) (k := k) (x := x) (y := y) hp.2 h fun z hz => hy z (List.mem_cons_of_mem _ hz)
    refine ⟨?_, fun z hz => ?_⟩
    · show (a :: setO l k y).Pairwise R
      rw [List.pairwise_cons]
      refine ⟨fun z hz => ?_, i1⟩
      rcases i2 z hz with e | e
      · rw [e]; exact hs _ _ (hy a List.mem_cons_self (hs _ _ (hp.1 x hx)))
      · exact hp.1 z e.1
    · rcases List.mem_cons.1 hz with e | e
      · rw [e]; exact .inr ⟨List.mem_cons_self, hs _ _ (hp.1 x hx)⟩
      · rcases i2 z e with g | g
        · exact .inl g
        · exact .inr ⟨List.mem_cons_of_mem _ g.1, g.2⟩
/-- A row of cells. -/
def rowO (E : TypeId) (vs : List Value) : Obj → Prop := fun o => o = .cells vs.toArray E (0, 0)
/-- A slice that grows. -/
structure SlO where
  a : Option Addr
  c : Nat
  E : TypeId
  vs : List Value
abbrev Kn := List (Nat × (Obj → Prop))
/-- Since w0 the call made the blocks of l and the slices of s, which lie apart; all else is as it was. -/
structure HH (w0 w : World) (l : Kn) (s : List SlO) : Prop where
  below : Below w0.heap.size w0 w
  blk : ∀ x ∈ l, w0.heap.size ≤ x.1 ∧ ∃ o, w.heap[x.1]? = some o ∧ x.2 o
  own : ∀ x ∈ s, Own w w0.heap.size x.E x.a x.c x.vs
  nd1 : l.Pairwise fun x y => x.1 ≠ y.1
  nd2 : s.Pairwise fun x y => ∀ p q, x.a = some p → y.a = some q → p.block ≠ q.block
  nd3 : ∀ x ∈ l, ∀ y ∈ s, ∀ q, y.a = some q → x.1 ≠ q.block
namespace HH
variable {w0 w w' : World} {l : Kn} {s : List SlO}
theorem start (w : World) : HH w w [] [] := ⟨Below.refl _ _, (fun x h => by cases h), (fun x h => by cases h), List.Pairwise.nil, List.Pairwise.nil, (fun x h => by cases h)⟩
theorem lt (h : HH w0 w l s) {x : Nat × (Obj → Prop)} (hx : x ∈ l) : x.1 < w.heap.size := by
  obtain ⟨_, o, ho, _⟩ := h.blk x hx
  exact lt_of_heap ho
/-- A call that leaves all old blocks alone. -/
theorem call (h : HH w0 w l s) (hb : Below w.heap.size w w') : HH w0 w' l s :=
  ⟨h.below.trans (hb.mono h.below.size), fun x hx => by
    obtain ⟨h1, o, ho, hr⟩ := h.blk x hx
    exact ⟨h1, o, (hb.block _ (lt_of_heap ho)).trans ho, hr⟩, fun x hx => (h.own x hx).later hb (Nat.le_refl _), h.nd1, h.nd2, h.nd3⟩
theorem drew (h : HH w0 w l s) : HH w0 w.drew l s := h.call (Below.refl _ _).drew
theorem drewN (h : HH w0 w l s) (n : Nat) : HH w0 (w.drewN n) l s := h.call (below_drewNN (Below.refl _ _) n)
/-- A block more. -/
theorem add (h : HH w0 w l s) (hb : Below w.heap.size w w') {b : Nat} {R : Obj → Prop} {o : Obj} (hlo : w.heap.size ≤ b) (ho : w'.heap[b]? = some o) (hr : R o) : HH w0 w' (l ++ [(b, R)]) s := by
  have h' := h.call hb
  refine ⟨h'.below, fun x hx => ?_, h'.own, ?_, h.nd2, fun x hx y hy q hq => ?_⟩
  · rcases List.mem_append.1 hx with e | e
    · exact h'.blk x e
    · obtain rfl := List.mem_singleton.1 e
      exact ⟨Nat.le_trans h.below.size hlo, o, ho, hr⟩
  · rw [List.pairwise_append]
    refine ⟨h.nd1, List.pairwise_singleton _ _, fun x hx y hy => ?_⟩
    obtain rfl := List.mem_singleton.1 hy
    have := h.lt hx
    show x.1 ≠ b
    omega
  · rcases List.mem_append.1 hx with e | e
    · exact h.nd3 x e y hy q hq
    · obtain rfl := List.mem_singleton.1 e
      have := ((h.own y hy).lt hq).2
      show b ≠ q.block
      omega
theorem addRow (h : HH w0 w l s) (hb : Below w.heap.size w w') {b : Nat} {E : TypeId} {vs : List Value} (hlo : w.heap.size ≤ b) (hr : Row w' b E vs) : HH w0 w' (l ++ [(b, rowO E vs)]) s := h.add hb hlo hr rfl
theorem alloc (h : HH w0 w l s) (cs : Array Value) (E : TypeId) {b : Nat} (hb : b = w.heap.size) {vs : List Value} (hv : cs.toList = vs) : HH w0 (w.alloc (.cells cs E)) (l ++ [(b, rowO E vs)]) s := by
  subst hb; subst hv
  exact h.addRow ((Below.refl _ _).alloc (Nat.le_refl _) _) (Nat.le_refl _) (Row.new w cs E)
/-- A slice more. -/
theorem addSl (h : HH w0 w l s) (hb : Below w.heap.size w w') {a : Option Addr} {c : Nat} {E : TypeId} {vs : List Value} (ho : Own w' w.heap.size E a c vs) : HH w0 w' l (s ++ [⟨a, c, E, vs⟩]) := by
  have h' := h.call hb
  refine ⟨h'.below, h'.blk, fun x hx => ?_, h.nd1, ?_, fun x hx y hy q hq => ?_⟩
  · rcases List.mem_append.1 hx with e | e
    · exact h'.own x e
    · obtain rfl := List.mem_singleton.1 e
      exact ho.mono h.below.size
  · rw [List.pairwise_append]
    refine ⟨h.nd2, List.pairwise_singleton _ _, fun x hx y hy p q hp hq => ?_⟩
    obtain rfl := List.mem_singleton.1 hy
    have h1 := ((h.own x hx).lt hp).2
    have h2 := (ho.lt hq).1
    omega
  · rcases List.mem_append.1 hy with e | e
    · exact h.nd3 x hx y e q hq
    · obtain rfl := List.mem_singleton.1 e
      have h1 := h.lt hx
      have h2 := (ho.lt hq).1
      omega
theorem addNil (h : HH w0 w l s) (E : TypeId) : HH w0 w l (s ++ [⟨none, 0, E, []⟩]) := h.addSl (Below.refl _ _) (Own.nil _ _ _)
/-- One block turns. -/
theorem upd (h : HH w0 w l s) {k b : Nat} {R R' : Obj → Prop} {o : Obj} (hk : nthO l k = some (b, R)) (hos : w'.os = w.os) (htp : w'.tape = w.tape) (hop : w'.output = w.output) (hsz : w.heap.size ≤ w'.heap.size)
    (hblk : ∀ i, i < w.heap.size → i ≠ b → w'.heap[i]? = w.heap[i]?) (ho : w'.heap[b]? = some o) (hr : R' o) : HH w0 w' (setO l k (b, R')) s := by
  have hm := nthO_mem hk
  have hlo := (h.blk _ hm).1
  obtain ⟨p1, p2⟩ := setO_pair (R := fun (x y : Nat × (Obj → Prop)) => x.1 ≠ y.1) (fun _ _ h e => h e.symm) (y := (b, R')) h.nd1 hk (fun z _ hz => hz)
  refine ⟨h.below.trans ⟨hos, htp, hop, hsz, fun i hi => hblk i (by have := h.below.size; omega) (by have : w0.heap.size ≤ b := hlo; omega)⟩, fun x hx => ?_, fun x hx => ?_, p1, h.nd2, fun x hx y hy q hq => ?_⟩
  · rcases p2 x hx with e | ⟨e1, e2⟩
    · subst e; exact ⟨hlo, o, ho, hr⟩
    · obtain ⟨h1, o', ho', hr'⟩ := h.blk x e1
      exact ⟨h1, o', (hblk _ (lt_of_heap ho') (fun e => e2 e.symm)).trans ho', hr'⟩
  · refine (h.own x hx).kept fun q hq => hblk _ ((h.own x hx).lt hq).2 fun e => ?_
    exact h.nd3 _ hm x hx q hq e.symm
  · rcases p2 x hx with e | ⟨e1, _⟩
    · subst e; exact h.nd3 _ hm y hy q hq
    · exact h.nd3 x e1 y hy q hq
theorem row (h : HH w0 w l s) {k b : Nat} {E : TypeId} {vs : List Value} (hk : nthO l k = some (b, rowO E vs)) : Row w b E vs := by
  obtain ⟨_, o, ho, hr⟩ := h.blk _ (nthO_mem hk)
  have hr : o = .cells vs.toArray E (0, 0) := hr
  rw [hr] at ho; exact ho
theorem obj (h : HH w0 w l s) {k b : Nat} {R : Obj → Prop} (hk : nthO l k = some (b, R)) : w0.heap.size ≤ b ∧ b < w.heap.size ∧ ∃ o, w.heap[b]? = some o ∧ R o :=
  ⟨(h.blk _ (nthO_mem hk)).1, h.lt (nthO_mem hk), (h.blk _ (nthO_mem hk)).2⟩
theorem cell (h : HH w0 w l s) {k b i : Nat} {E : TypeId} {vs : List Value} {v : Value} (hk : nthO l k = some (b, rowO E vs)) (hv : vs[i]? = some v) : w.cell? ⟨b, i, none⟩ = some v := (h.row hk).cell i ▸ hv
theorem frozen (h : HH w0 w l s) {k b : Nat} {E : TypeId} {vs : List Value} (hk : nthO l k = some (b, rowO E vs)) (i : Nat) : w.frozen? ⟨b, i, none⟩ = false := (h.row hk).frozen i
theorem int (h : HH w0 w l s) {k b : Nat} {E : TypeId} {xs : List Int} (hk : nthO l k = some (b, rowO E (ints xs))) (i : Nat) (hi : i < xs.length) : w.cell? ⟨b, i, none⟩ = some (.int .i64 (nth xs i)) := (h.row hk).int i hi
theorem bool (h : HH w0 w l s) {k b : Nat} {E : TypeId} {xs : List Bool} (hk : nthO l k = some (b, rowO E (bools xs))) (i : Nat) (hi : i < xs.length) : w.cell? ⟨b, i, none⟩ = some (.bool (bth xs i)) := (h.row hk).bool i hi
theorem set (h : HH w0 w l s) {k b : Nat} {E : TypeId} {vs : List Value} (hk : nthO l k = some (b, rowO E vs)) (i : Nat) (u : Value) : HH w0 (w.setCell ⟨b, i, none⟩ u) (setO l k (b, rowO E (vs.set i u))) s := by
  have hr := (h.row hk).set i u
  exact h.upd hk rfl rfl rfl (by simp) (fun j _ hj => Below.heap_setCell w ⟨b, i, none⟩ u j hj) hr rfl
theorem setInt (h : HH w0 w l s) {k b : Nat} {E : TypeId} {xs : List Int} (hk : nthO l k = some (b, rowO E (ints xs))) (i : Nat) (x : Int) : HH w0 (w.setCell ⟨b, i, none⟩ (.int .i64 x)) (setO l k (b, rowO E (ints (xs.set i x)))) s := by
  have := h.set hk i (.int .i64 x)
  rwa [ints_set] at this
theorem setBool (h : HH w0 w l s) {k b : Nat} {E : TypeId} {xs : List Bool} (hk : nthO l k = some (b, rowO E (bools xs))) (i : Nat) (x : Bool) : HH w0 (w.setCell ⟨b, i, none⟩ (.bool x)) (setO l k (b, rowO E (bools (xs.set i x)))) s := by
  have := h.set hk i (.bool x)
  rwa [bools_set] at this
/-- One slice turns: an append. -/
theorem grow (h : HH w0 w l s) {k : Nat} {a : Option Addr} {c : Nat} {E : TypeId} {vs : List Value} (hk : nthO s k = some ⟨a, c, E, vs⟩) {a' : Option Addr} {c' : Nat} {vs' : List Value} (ho : Own w' w0.heap.size E a' c' vs') (ht : Turned w w' a)
    (hf : ∀ x, a' = some x → (w.heap.size ≤ x.block ∨ ∃ y, a = some y ∧ x = y)) : HH w0 w' l (setO s k ⟨a', c', E, vs'⟩) := by
  have hm := nthO_mem hk
  have hmo := h.own _ hm
  obtain ⟨p1, p2⟩ := setO_pair (R := fun (x y : SlO) => ∀ p q, x.a = some p → y.a = some q → p.block ≠ q.block) (fun _ _ h p q hp hq e => h q p hq hp e.symm) (y := ⟨a', c', E, vs'⟩) h.nd2 hk (fun z hz hR p q hp hq => by
    rcases hf p hp with e | ⟨y, hy, rfl⟩
    · have := ((h.own z hz).lt hq).2; omega
    · exact hR _ q hy hq)
  refine ⟨h.below.trans (ht.below h.below.size fun x hx => (hmo.lt hx).1), fun x hx => ?_, fun x hx => ?_, h.nd1, p1, fun x hx y hy q hq => ?_⟩
  · obtain ⟨h1, o, ho', hr⟩ := h.blk x hx
    exact ⟨h1, o, (ht.block _ (lt_of_heap ho') (fun q hq e => h.nd3 x hx _ hm q hq e.symm)).trans ho', hr⟩
  · rcases p2 x hx with e | ⟨e1, e2⟩
    · subst e; exact ho
    · refine (h.own x e1).kept fun q hq => ht.block _ ((h.own x e1).lt hq).2 fun p hp => e2 p q hp hq
  · rcases p2 y hy with e | ⟨e1, _⟩
    · subst e
      rcases hf q hq with g | ⟨z, hz, rfl⟩
      · have := h.lt hx; omega
      · exact h.nd3 x hx _ hm _ hz
    · exact h.nd3 x hx y e1 q hq
theorem sl (h : HH w0 w l s) {k : Nat} {x : SlO} (hk : nthO s k = some x) : Own w w0.heap.size x.E x.a x.c x.vs := h.own x (nthO_mem hk)
/-- What came in. -/
theorem came (h : HH w0 w l s) {a : Option Addr} {xs : List Int} (hx : IntsAt w0 a xs) : IntsAt w a xs := hx.later h.below
end HH
namespace HH
variable {w0 w w' : World} {l : Kn} {s : List SlO}
theorem forgetK {l' : Kn} (h : HH w0 w l s) (hs : l'.Sublist l) : HH w0 w l' s :=
  ⟨h.below, fun x hx => h.blk x (hs.subset hx), h.own, h.nd1.sublist hs, h.nd2, fun x hx => h.nd3 x (hs.subset hx)⟩
end HH
end Go.Proofs.YtmhhjchnjaefhaaDoor


namespace Go.Proofs.YtmhhjchnjaefhaaDoor
open Go Go.RowKit
theorem heap_setCells_row (b : Nat) (E : TypeId) : ∀ (us : List Value) (o : Nat) (w : World) (cur : Array Value), w.heap[b]? = some (.cells cur E (0, 0)) → o + us.length ≤ cur.size →
    ∃ cur', (w.setCells b o us).heap[b]? = some (.cells cur' E (0, 0)) ∧ cur'.size = cur.size ∧ ∀ j, cur'[j]? = if o ≤ j ∧ j < o + us.length then us[j - o]? else cur[j]?
  | [], o, w, cur, h, _ => ⟨cur, h, rfl, fun j => by rw [if_neg (by simp)]⟩
  | u :: us, o, w, cur, h, hl => by
    simp only [List.length_cons] at hl
    obtain ⟨cur', h1, h2, h3⟩ := heap_setCells_row b E us (o + 1) (w.setCell ⟨b, o, none⟩ u) (cur.setIfInBounds o u) (heap_setCell_same w b o cur E u h) (by simp; omega)
    refine ⟨cur', h1, by rw [h2]; simp, fun j => ?_⟩
    rw [h3 j, Array.getElem?_setIfInBounds]
    simp only [List.length_cons]
    by_cases e : o = j
    · subst e
      rw [if_neg (by omega), if_pos rfl, if_pos (by omega), if_pos (by omega)]
      simp
    · rw [if_neg e]
      by_cases g : o + 1 ≤ j ∧ j < o + 1 + us.length
      · rw [if_pos g, if_pos (by omega), show j - o = (j - (o + 1)) + 1 from by omega, List.getElem?_cons_succ]
      · rw [if_neg g, if_neg (by omega)]
theorem size_setCells (b : Nat) : ∀ (us : List Value) (o : Nat) (w : World), (w.setCells b o us).heap.size = w.heap.size ∧ (w.setCells b o us).os = w.os ∧ (w.setCells b o us).tape = w.tape ∧ (w.setCells b o us).output = w.output ∧ ∀ k, k ≠ b → (w.setCells b o us).heap[k]? = w.heap[k]?
  | [], _, _ => ⟨rfl, rfl, rfl, rfl, fun _ _ => rfl⟩
  | u :: us, o, w => by
    obtain ⟨h1, h2, h3, h4, h5⟩ := size_setCells b us (o + 1) (w.setCell ⟨b, o, none⟩ u)
    exact ⟨h1.trans (by simp), h2, h3, h4, fun k hk => (h5 k hk).trans (heap_setCell_other w ⟨b, o, none⟩ k u hk)⟩
/-- 'append(s, xs...)', s the call's own; elements of k cells; m elements that are read. -/
theorem run_append_wide {P : Program} (w : World) (B : Nat) (t tx ty E : TypeId) (i : TypeInfo) (z : Value) (bytes k : Nat) (h1 : P.underlying t = some (.slice E)) (h1x : P.underlying tx = some (.slice E)) (h2 : P.info? E = some i) (h3 : i.zero = some z) (h4 : i.size = k) (hk : 0 < k) (h5 : i.bytes = bytes) (hz : z.cells.size = k)
    (a : Option Addr) (n c : Nat) (vs : List Value) (hn : vs.length = n * k) (hnc : n ≤ c) (hown : Own w B E a (c * k) vs) (ax : Option Addr) (m cx : Nat) (us : List Value) (hm : us.length = m * k) (hus : VAt w ax us) (hu1 : ∀ u ∈ us, u.oneCell' = true)
    (hbytes : (n + m) * bytes ≤ 140737488355328) (h63 : n + m ≤ 9223372036854775807) (hB : B ≤ w.heap.size) :
    ∃ a' c' w', (Builtin.append_ #[t, tx] ty #[.slice a n c, .slice ax m cx]).run P w = .ok (.slice a' (n + m) c') w' ∧ n + m ≤ c' ∧ Own w' B E a' (c' * k) (vs ++ us) ∧ Turned w w' a ∧
      (∀ x, a' = some x → (w.heap.size ≤ x.block ∨ ∃ y, a = some y ∧ x = y)) := by
  have hs : Src P i.size tx (.slice ax m cx) m us w := by
    cases ax with
    | none =>
      have : us = [] := by
        cases us with
        | nil => rfl
        | cons u us => obtain ⟨_, _, h, _⟩ := hus 0 u rfl; cases h
      subst this
      have hm0 : m = 0 := by
        rcases Nat.eq_zero_or_pos m with e | e
        · exact e
        · have := Nat.mul_pos e hk; simp at hm; omega
      subst hm0
      exact Src.ofNil w h1x cx
    | some ad =>
      refine Src.ofSlice w h1x ad m cx us (by rw [h4]; exact hm) (fun j v hj => ?_) hu1
      obtain ⟨b, off, he, hc⟩ := hus j v hj
      cases he
      rw [Addr.add_lit]; exact hc
  subst h5
  by_cases hroom : n + m ≤ c
  · have hroom2 : (n + m) * k ≤ c * k := Nat.mul_le_mul_right k hroom
    rw [Nat.add_mul] at hroom2
    rcases hown with ⟨rfl, rfl, hc0⟩ | ⟨b, off, cur, rfl, g2, g3, g4, g5, g6⟩
    · have hc1 : c = 0 := by
        rcases Nat.eq_zero_or_pos c with e | e
        · exact e
        · have := Nat.mul_pos e hk; omega
      subst hc1
      obtain rfl : m = 0 := by omega
      obtain rfl : n = 0 := by omega
      have h0 : us = [] := List.eq_nil_of_length_eq_zero (by omega)
      subst h0
      have hr : (Builtin.append_ #[t, tx] ty #[.slice none 0 0, .slice ax 0 cx]).run P w = .ok (.slice none 0 0) w := by
        have hl := hs.len
        have hc := hs.cells
        simp [Builtin.append_, run_underlying h1, run_underlying h1x, sizeOf, typeInfo, h2, hl, hc]
      exact ⟨none, 0, w, hr, Nat.le_refl _, by rw [Nat.zero_mul]; exact Own.nil _ _ _, ⟨rfl, rfl, rfl, Nat.le_refl _, fun _ _ _ => rfl⟩, fun x hx => by cases hx⟩
    · have hcell : ∀ j, j < us.length → (w.cell? ⟨b, off + n * i.size + j, none⟩).isSome = true := by
        intro j hj
        rw [cell_of_row w b _ cur E (0, 0) g3]
        have : off + n * i.size + j < cur.size := by rw [h4]; omega
        simp [this]
      have hr := run_append_room_src (P := P) w t tx ty E i h1 h2 b off n c (.slice ax m cx) m us hs hroom hcell (fun j _ => frozen_of_row w b _ cur E g3)
      rw [h4] at hr
      obtain ⟨cur', k1, k2, k3⟩ := heap_setCells_row b E us (off + n * k) w cur g3 (by omega)
      obtain ⟨s1, s2, s3, s4, s5⟩ := size_setCells b us (off + n * k) w
      refine ⟨_, _, _, hr, hroom, ?_, ⟨s2, s3, s4, by omega, fun k _ hk => s5 k (fun e => hk _ rfl e.symm)⟩, fun x hx => .inr ⟨_, rfl, (by simpa using hx.symm)⟩⟩
      refine .inr ⟨b, off, cur', rfl, g2, k1, by rw [List.length_append]; omega, by omega, fun j v hj => ?_⟩
      rw [k3, List.getElem?_append] at *
      split at hj
      · rename_i hlt
        rw [if_neg (by omega)]; exact g6 j v hj
      · rename_i hge
        have hjl := (List.getElem?_eq_some_iff.1 hj).1
        rw [if_pos (by omega), show off + j - (off + n * k) = j - vs.length from by omega]
        exact hj
  · have hold : ∃ ys : List Value, ys = vs ∧ (Builtin.firstCells i.size n (.slice a n c)).run P w.drew = .ok ys.toArray w.drew := by
      rcases hown with ⟨rfl, rfl, hc0⟩ | ⟨b, off, cur, rfl, g2, g3, g4, g5, g6⟩
      · have hn0 : n = 0 := by
          rcases Nat.eq_zero_or_pos n with e | e
          · exact e
          · have := Nat.mul_pos e hk; simp at hn; omega
        subst hn0
        exact ⟨[], rfl, run_firstCells_none _ _ _ _ _⟩
      · refine ⟨vs, rfl, run_firstCells_some w.drew i.size n ⟨b, off, none⟩ n c vs (by rw [h4]; exact hn) (fun j v hj => ?_)⟩
        rw [Addr.add_lit]
        show w.cell? ⟨b, off + j, none⟩ = some v
        rw [cell_of_row w b _ cur E (0, 0) g3]
        exact g6 j v hj
    obtain ⟨ys, rfl, holds⟩ := hold
    have hr := run_append_grow_src (P := P) w t tx ty E i z h1 h2 h3 a n c ys holds (.slice ax m cx) m us hs (by omega) (by omega) (growslice_fits (by omega) hbytes)
    have hge := grownCap_ge w (n + m) c E
    refine ⟨_, _, _, hr, hge, ?_, ⟨rfl, rfl, rfl, by simp, fun k hk _ => Below.heap_alloc w.drew _ k hk⟩, fun x hx => by simp only [Option.some.injEq] at hx; subst hx; exact .inl (Nat.le_refl _)⟩
    have hge2 : (n + m) * k ≤ grownCap w (n + m) c E * k := Nat.mul_le_mul_right k hge
    have hge3 : (grownCap w (n + m) c E - (n + m)) * k = grownCap w (n + m) c E * k - (n + m) * k := Nat.sub_mul _ _ _
    rw [Nat.add_mul] at hge2 hge3
    refine .inr ⟨_, 0, _, rfl, by simpa using hB, heap_alloc_new w.drew _, by rw [List.length_append]; omega, ?_, ?_⟩
    · simp [size_zeroCells, hz]; omega
    · intro j v hj
      have hlt : j < (ys ++ us).length := (List.getElem?_eq_some_iff.1 hj).1
      rw [Nat.zero_add, Array.getElem?_append_left (by simpa using hlt)]
      simpa using hj
theorem replicate_ints (n : Nat) : (Array.replicate n (Value.int .i64 0)).toList = ints (List.replicate n 0) := by simp [ints]
theorem run_mk1 {T E : TypeId} {z : Value} {bytes : Nat} (hu : Tryd.prog.underlying T = some (.slice E)) (hi : (Tryd.prog.info? E).map (fun i => (i.zero, i.size, i.bytes)) = some (some z, 1, bytes)) (hz : z.cells = #[z]) (n c : Nat) (hnc : n ≤ c) (hb : bytes ≤ 24) (hn : c ≤ 1000000000) (W : World) :
    (Instr.makeSlice T (.int .i64 (n : Int)) (.int .i64 (c : Int))).run Tryd.prog W = .ok (.slice (some ⟨W.heap.size, 0, none⟩) n c) (W.alloc (.cells (Array.replicate c z) E)) := by
  obtain ⟨i0, hi0, hz0, hz1, hz2⟩ := info_parts hi
  have hbb : (bytes : Int) * (c : Int) ≤ 281474976710656 := by
    have h : bytes * c ≤ 24 * 1000000000 := Nat.mul_le_mul hb hn
    have h2 : ((bytes * c : Nat) : Int) ≤ 281474976710656 := by omega
    rwa [Int.natCast_mul] at h2
  have hr := run_make (P := Tryd.prog) W T E i0 z hu hi0 hz0 .i64 .i64 n c (by omega) (by omega) (by rw [hz2]; exact hbb) (by omega)
  simp only [Int.toNat_natCast, hz1, Nat.mul_one] at hr
  have hm : madeCells z.cells c = Array.replicate c z := by
    apply Array.ext'
    rw [hz, toList_madeCells_one, Array.toList_replicate]
  rw [hm] at hr
  exact hr
theorem OwnRows.keptB {w w' : World} {B : Nat} {a : Option Addr} {c : Nat} {xss : List (List Int)} (h : OwnRows w B a c xss) (hk : ∀ b, B ≤ b → w'.heap[b]? = w.heap[b]?) : OwnRows w' B a c xss := by
  obtain ⟨vs, h1, h2, h3⟩ := h
  refine ⟨vs, h1.kept fun x hx => hk _ (h1.lt hx).1, h2, fun i v xs hv hx => ?_⟩
  obtain ⟨a', c', e, ho⟩ := h3 i v xs hv hx
  exact ⟨a', c', e, ho.kept fun x hx => hk _ (ho.lt hx).1⟩
theorem getD_some {α : Type} {l : List α} {i : Nat} {d : α} (h : i < l.length) : l[i]? = some (l.getD i d) := by simp [h]
end Go.Proofs.YtmhhjchnjaefhaaDoor


