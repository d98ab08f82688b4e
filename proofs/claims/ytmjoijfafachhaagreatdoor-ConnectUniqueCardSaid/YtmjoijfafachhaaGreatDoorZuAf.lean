/- Plain laws: strands of half-edges; owners; the crossings of two strands are even in number; renamings of half-edges; what mirror.move computes. -/
import Derived.WalkKit
import Derived.WalkSpells
import Derived.WalkLawsBesides
import Derived.Deep.AppendSrc
import Derived.Deep.LoopGhost
import Derived.Deep.QuietTactic
import Derived.Deep.RegionWith
import Derived.Deep.DeepMust
import Derived.Deep.DeepFit
import Derived.BigQuiet
import Derived.Lib.Hide
import Derived.Outline
import Derived.Test.YtmjoijfafachhaaGreatDoorProg
import Derived.Test.YtmjoijfafachhaaGreatDoorZuAa
import Derived.Test.YtmjoijfafachhaaGreatDoorZuAb
import Derived.Test.YtmjoijfafachhaaGreatDoorZuAc
import Derived.Test.YtmjoijfafachhaaGreatDoorZuAd
import Derived.Test.YtmjoijfafachhaaGreatDoorZuAe
namespace Go.Proofs.YtmjoijfafachhaaGreatDoor
open Go Go.RowKit
/-- f, turned at k. -/
def upd (f : Nat → Int × Int) (k : Nat) (p : Int × Int) : Nat → Int × Int := fun i => if i = k then p else f i
theorem Shape.outS {S M : List Int} {L : Int} (hs : Shape S M L) (h : Nat) (hh : h < 4 * S.length) : outB S (sc M h) = outB S h := by
  have h1 := (hs.mate h hh).2.2.2.2
  have h2 := hs.toNat_lt h hh
  have h3 := hs.sign ((nth M h).toNat / 4) (by omega)
  unfold sc
  generalize (nth M h).toNat = m at *
  have h4 : tn m 2 / 4 = m / 4 := tn_div m 2
  have h5 : tn m 2 % 4 = (m % 4 + 2) % 4 := by rw [tn_mod]; omega
  have h6 : outB S (tn m 2) = !(outB S m) := by
    unfold outB
    rw [h4, h5]
    have : m % 4 = 0 ∨ m % 4 = 1 ∨ m % 4 = 2 ∨ m % 4 = 3 := by omega
    rcases this with e | e | e | e <;> rcases h3 with g | g <;> simp [e, g]
  rw [h6]
  cases hx : outB S h <;> cases hy : outB S m <;> simp_all
/-- The outgoing end of x's edge. -/
def sg (S M : List Int) (x : Nat) : Nat := if outB S x = true then x else mt M x
/-- The strand of x, by its least half-edge. -/
def st (S M : List Int) (x : Nat) : Nat := fl (sc M) (perOf (sc M) (4 * S.length)) (sg S M x)
theorem tn_tn (x : Nat) (a b : Int) (ha : -4 ≤ a) (hb : -4 ≤ b) (hab : -8 ≤ a + b) : tn (tn x a) b = tn x (a + b) := by
  have h1 := tn_div x a
  have h2 := tn_mod x a
  unfold tn at *
  omega
theorem tn_zero (x : Nat) : tn x 0 = x := by unfold tn; omega
theorem tn_four (x : Nat) (a : Int) (ha : -4 ≤ a) : tn x (a + 4) = tn x a := by unfold tn; omega
theorem tn_22 (x : Nat) : tn (tn x 2) 2 = x := by rw [tn_tn x 2 2 (by omega) (by omega) (by omega)]; unfold tn; omega
namespace Shape
variable {S M : List Int} {L : Int} (hs : Shape S M L)
include hs
theorem out_tn2 (x : Nat) (hx : x < 4 * S.length) : outB S (tn x 2) = !(outB S x) := by
  have h3 := hs.sign (x / 4) (by omega)
  have h4 : tn x 2 / 4 = x / 4 := tn_div x 2
  have h5 : tn x 2 % 4 = (x % 4 + 2) % 4 := by rw [tn_mod]; omega
  unfold outB
  rw [h4, h5]
  have : x % 4 = 0 ∨ x % 4 = 1 ∨ x % 4 = 2 ∨ x % 4 = 3 := by omega
  rcases this with e | e | e | e <;> rcases h3 with g | g <;> simp [e, g]
theorem mt_lt {x : Nat} (hx : x < 4 * S.length) : mt M x < 4 * S.length := hs.toNat_lt x hx
theorem mt_mt {x : Nat} (hx : x < 4 * S.length) : mt M (mt M x) = x := hs.invol x hx
theorem out_mt {x : Nat} (hx : x < 4 * S.length) : outB S (mt M x) = !(outB S x) := by
  have := (hs.mate x hx).2.2.2.2
  unfold mt
  cases h : outB S x <;> cases g : outB S (nth M x).toNat <;> simp_all
omit hs in
theorem sg_of {x : Nat} (h : outB S x = true) : sg S M x = x := if_pos h
theorem perS : ∀ x, x < 4 * S.length → IsPer (sc M) x (perOf (sc M) (4 * S.length) x) := perOf_all hs.injS
theorem st_mt {x : Nat} (hx : x < 4 * S.length) : st S M (mt M x) = st S M x := by
  unfold st sg
  rw [hs.out_mt hx]
  cases h : outB S x
  · simp
  · simp [hs.mt_mt hx]
theorem st_step {x : Nat} (hx : x < 4 * S.length) (ho : outB S x = true) : st S M (sc M x) = st S M x := by
  have h1 : outB S (sc M x) = true := by rw [hs.outS x hx]; exact ho
  unfold st
  rw [sg_of h1, sg_of ho]
  exact fl_step hs.injS hs.perS hx
theorem st_tn2 {x : Nat} (hx : x < 4 * S.length) : st S M (tn x 2) = st S M x := by
  have key : ∀ y, y < 4 * S.length → outB S y = false → st S M (tn y 2) = st S M y := by
    intro y hy h
    have h1 : outB S (mt M y) = true := by rw [hs.out_mt hy, h]; rfl
    have h2 := hs.st_step (hs.mt_lt hy) h1
    have h3 : sc M (mt M y) = tn y 2 := by
      have h4 : sc M (mt M y) = tn (mt M (mt M y)) 2 := rfl
      rw [h4, hs.mt_mt hy]
    rw [h3, hs.st_mt hy] at h2
    exact h2
  cases h : outB S x
  · exact key x hx h
  · have h1 : outB S (tn x 2) = false := by rw [hs.out_tn2 x hx, h]; rfl
    have h2 := key _ (tn_lt x _ 2 hx) h1
    rw [tn_22] at h2
    exact h2.symm
theorem out_orb {x y : Nat} (hx : x < 4 * S.length) (ho : OnOrb (sc M) x y) : outB S y = outB S x := by
  obtain ⟨k, rfl⟩ := ho
  induction k with
  | zero => rfl
  | succ k ih => rw [iter_succ, hs.outS _ (iter_lt (sc M) _ hs.injS.lt k x hx), ih]
end Shape
/-- The strands' least half-edges. -/
def leasts (S M : List Int) : List Nat := (List.range (4 * S.length)).filter fun h => outB S h && leastB (sc M) (perOf (sc M) (4 * S.length)) h
/-- The number of x's strand. -/
def ix (S M : List Int) (x : Nat) : Nat := (leasts S M).idxOf (st S M x)
namespace Shape
variable {S M : List Int} {L : Int} (hs : Shape S M L)
include hs
theorem conn_mt {c x : Nat} (hx : x < 4 * S.length) : Conn M c (x / 4) ↔ Conn M c (mt M x / 4) := hs.mates2.conn hx
theorem conn_sc {c x k : Nat} (hx : x < 4 * S.length) (h : Conn M c (x / 4)) : Conn M c (iter (sc M) k x / 4) := by
  induction k with
  | zero => exact h
  | succ k ih =>
    have hy := iter_lt (sc M) _ hs.injS.lt k x hx
    rw [iter_succ, show sc M (iter (sc M) k x) = tn (mt M (iter (sc M) k x)) 2 from rfl, tn_div]
    exact (hs.conn_mt hy).1 ih
/-- The even number of half-edges at a crossing that lie on a strand. -/
theorem strand_even (p c : Nat) : cnt (fun x => decide (x / 4 = c) && decide (st S M x = p)) (4 * S.length) % 2 = 0 :=
  cnt_even (fun x => tn x 2) fun x hx h => by
    rw [Bool.and_eq_true, decide_eq_true_eq, decide_eq_true_eq] at h ⊢
    refine ⟨tn_lt _ _ _ hx, ⟨by rw [tn_div]; exact h.1, by rw [hs.st_tn2 hx]; exact h.2⟩, tn_22 x, ?_⟩
    have := tn_mod x 2
    intro e
    rw [e] at this
    omega
end Shape
/-- The outgoing half-edge of the strand over. -/
def oo (S : List Int) (c : Nat) : Nat := if nth S c = 1 then 4 * c + 1 else 4 * c + 3
/-- The way back along a permutation. -/
def back (f : Nat → Nat) (N y : Nat) : Nat := iter f (perOf f N y - 1) y
section
variable {f : Nat → Nat} {N : Nat} (hf : Inj f N)
include hf
theorem back_lt {y : Nat} (hy : y < N) : back f N y < N := iter_lt f N hf.lt _ _ hy
theorem f_back {y : Nat} (hy : y < N) : f (back f N y) = y := by
  have hpp := perOf_all hf y hy
  have := hpp.2.1
  rw [show perOf f N y = (perOf f N y - 1) + 1 from by have := hpp.1; omega, iter_succ] at this
  exact this
theorem back_f {x : Nat} (hx : x < N) : back f N (f x) = x := hf.inj _ _ (back_lt hf (hf.lt x hx)) hx (f_back hf (hf.lt x hx))
theorem back_inj : Inj (back f N) N := ⟨fun x hx => back_lt hf hx, fun x y hx hy he => by rw [← f_back hf hx, he, f_back hf hy]⟩
end
theorem orbits_le {f g per per' : Nat → Nat} {N : Nat} (hf : Inj f N) (hp : ∀ x, x < N → IsPer f x (per x)) (hg : Inj g N) (hp' : ∀ x, x < N → IsPer g x (per' x)) (ρ : Nat → Nat) (hρ : ∀ x, x < N → ρ x < N)
    (P P' : Nat → Bool) (h1 : ∀ x y, x < N → y < N → OnOrb g (ρ x) (ρ y) → OnOrb f x y) (hP : ∀ x, x < N → P x = true → P' (fl g per' (ρ x)) = true) :
    cnt (fun x => leastB f per x && P x) N ≤ cnt (fun x => leastB g per' x && P' x) N := by
  refine cnt_inj (fun x => fl g per' (ρ x)) (fun x hx h => ?_) (fun x y hx hy hpx hpy he => ?_)
  · rw [Bool.and_eq_true] at h
    have hr := hρ x hx
    have hl := fl_lt hg hp' hr
    exact ⟨hl, by rw [(fl_least hg hp' hl).2 (fl_idem hg hp' hr), hP x hx h.2]; rfl⟩
  · rw [Bool.and_eq_true] at hpx hpy
    have hx2 := hρ x hx
    have hy2 := hρ y hy
    have a := (fl_spec hp' hx2).1
    have b := (fl_spec hp' hy2).1
    have he : fl g per' (ρ x) = fl g per' (ρ y) := he
    rw [← he] at b
    have ho := h1 x y hx hy (onOrb_trans a (onOrb_symm hg hy2 b))
    rw [← (fl_least hf hp hx).1 hpx.1, ← (fl_least hf hp hy).1 hpy.1]
    exact (fl_eq hf hp hx ho).symm
/-- A renaming of the half-edges; e = -1: the orientation of the sphere turns. -/
structure Iso (M M' : List Int) (n : Nat) (τ : Nat → Nat) (e : Int) : Prop where
  inj : Inj τ (4 * n)
  mate : ∀ x, x < 4 * n → nth M' (τ x) = (τ (mt M x) : Int)
  turn : ∀ x, x < 4 * n → τ (tn x 1) = tn (τ x) e
  unit : e = 1 ∨ e = -1
namespace Iso
variable {M M' : List Int} {n : Nat} {τ : Nat → Nat} {e : Int} (h : Iso M M' n τ e)
include h
theorem lt {x : Nat} (hx : x < 4 * n) : τ x < 4 * n := h.inj.lt x hx
theorem mt' {x : Nat} (hx : x < 4 * n) : mt M' (τ x) = τ (mt M x) := by
  have := h.mate x hx
  unfold mt at *
  omega
theorem opp {x : Nat} (hx : x < 4 * n) : τ (tn x 2) = tn (τ x) 2 := by
  have h1 := h.turn x hx
  have h2 := h.turn (tn x 1) (tn_lt _ _ _ hx)
  rw [tn_tn _ _ _ (by omega) (by omega) (by omega), h1] at h2
  rw [show (2 : Int) = 1 + 1 from rfl, h2]
  rcases h.unit with rfl | rfl
  · rw [tn_tn _ _ _ (by omega) (by omega) (by omega)]
  · rw [tn_tn _ _ _ (by omega) (by omega) (by omega), ← tn_four _ _ (by omega)]; rfl
theorem turnBack {x : Nat} (hx : x < 4 * n) : τ (tn x (-1)) = tn (τ x) (-e) := by
  have h1 := h.turn (tn x (-1)) (tn_lt _ _ _ hx)
  rw [tn_tn _ _ _ (by omega) (by omega) (by omega), show (-1 : Int) + 1 = 0 from rfl, tn_zero] at h1
  rw [h1]
  rcases h.unit with rfl | rfl <;> rw [tn_tn _ _ _ (by omega) (by omega) (by omega)] <;> exact (tn_zero _).symm
theorem same {x y : Nat} (hx : x < 4 * n) (he : x / 4 = y / 4) : τ x / 4 = τ y / 4 := by
  rcases (show y = x ∨ y = tn x 1 ∨ y = tn x 2 ∨ y = tn x (-1) from by unfold tn; omega) with rfl | rfl | rfl | rfl
  · rfl
  · rw [h.turn x hx, tn_div]
  · rw [h.opp hx, tn_div]
  · rw [h.turnBack hx, tn_div]
theorem symm (hm : Mates M n) : Iso M' M n (back τ (4 * n)) e := by
  have hb : ∀ x, x < 4 * n → back τ (4 * n) x < 4 * n := fun x hx => back_lt h.inj hx
  refine ⟨back_inj h.inj, fun x hx => ?_, fun x hx => ?_, h.unit⟩
  · have h1 := h.mt' (hb x hx)
    rw [f_back h.inj hx] at h1
    rw [h1, back_f h.inj (hm.lt (hb x hx))]
    have := (hm.ok.lt _ (hb x hx)).1
    unfold mt
    omega
  · have h1 : tn x 1 = tn (tn (tn x e) (-e)) 1 := by
      rcases h.unit with rfl | rfl <;> rw [tn_tn x _ _ (by omega) (by omega) (by omega)] <;> rw [show (_ : Int) + _ = 0 from rfl, tn_zero]
    rcases h.unit with rfl | rfl
    · refine h.inj.inj _ _ (hb _ (tn_lt _ _ _ hx)) (tn_lt _ _ _ (hb _ hx)) ?_
      rw [f_back h.inj (tn_lt _ _ _ hx), h.turn _ (hb _ hx), f_back h.inj hx]
    · refine h.inj.inj _ _ (hb _ (tn_lt _ _ _ hx)) (tn_lt _ _ _ (hb _ hx)) ?_
      rw [f_back h.inj (tn_lt _ _ _ hx), h.turnBack (hb _ hx), f_back h.inj hx]; rfl
theorem mates (hm : Mates M n) : Mates M' n := by
  have key : ∀ y, y < 4 * n → ∃ x, x < 4 * n ∧ τ x = y := fun y hy => ⟨_, back_lt h.inj hy, f_back h.inj hy⟩
  refine ⟨⟨fun y hy => ?_, fun y hy => ?_⟩, fun y hy => ?_⟩
  · obtain ⟨x, hx, rfl⟩ := key y hy
    rw [h.mate x hx]
    have := h.lt (hm.lt hx)
    omega
  · obtain ⟨x, hx, rfl⟩ := key y hy
    rw [h.mate x hx, Int.toNat_natCast, h.mate _ (hm.lt hx), hm.inv hx]
  · obtain ⟨x, hx, rfl⟩ := key y hy
    rw [h.mt' hx]
    intro e2
    exact hm.ne x hx (h.inj.inj _ _ (hm.lt hx) hx e2)
theorem conn1 (hm : Mates M n) {x y : Nat} (hx : x < 4 * n) (hy : y < 4 * n) (hc : Conn M (x / 4) (y / 4)) : Conn M' (τ x / 4) (τ y / 4) := by
  have := hc (fun c => c < n ∧ Conn M' (τ x / 4) (τ (4 * c) / 4)) ⟨by omega, by
    rw [h.same (x := 4 * (x / 4)) (y := x) (by omega) (by omega)]; exact Conn.refl _ _⟩ (fun a b ⟨ha, hq⟩ hab => by
      refine ⟨hm.ok.adj_lt ha hab, ?_⟩
      obtain ⟨s, hs, rfl⟩ := hab
      refine hq.step ?_
      have h1 : τ (4 * a) / 4 = τ (4 * a + s) / 4 := h.same (by omega) (by omega)
      have h2 := Mates.adj (M := M') (x := τ (4 * a + s))
      rw [h.mt' (by omega)] at h2
      rw [h1]
      have h3 : τ (4 * ((nth M (4 * a + s)).toNat / 4)) / 4 = τ (mt M (4 * a + s)) / 4 := h.same (by have := hm.lt (x := 4 * a + s) (by omega); unfold mt at this; omega) (by unfold mt; omega)
      rw [h3]; exact h2)
  rw [h.same (x := y) (y := 4 * (y / 4)) hy (by omega)]
  exact this.2
theorem conn (hm : Mates M n) {x y : Nat} (hx : x < 4 * n) (hy : y < 4 * n) : Conn M' (τ x / 4) (τ y / 4) ↔ Conn M (x / 4) (y / 4) := by
  refine ⟨fun hc => ?_, h.conn1 hm hx hy⟩
  have := (h.symm hm).conn1 (h.mates hm) (h.lt hx) (h.lt hy) hc
  rwa [back_f h.inj hx, back_f h.inj hy] at this
/-- Where a face goes. -/
def rho (M : List Int) (τ : Nat → Nat) (e : Int) (x : Nat) : Nat := if e = 1 then τ x else τ (mt M x)
omit h in
theorem rho_lt (h : Iso M M' n τ e) (hm : Mates M n) {x : Nat} (hx : x < 4 * n) : rho M τ e x < 4 * n := by
  unfold rho; split
  · exact h.lt hx
  · exact h.lt (hm.lt hx)
omit h in
theorem rho_face1 (h : Iso M M' n τ e) (hm : Mates M n) {x : Nat} (hx : x < 4 * n) : OnOrb (fc M') (rho M τ e x) (rho M τ e (fc M x)) := by
  have hm' := h.mates hm
  have hfx : fc M x < 4 * n := hm.inj.lt x hx
  rcases h.unit with rfl | rfl
  · refine ⟨1, ?_⟩
    have r1 : ∀ z, rho M τ 1 z = τ z := fun z => if_pos rfl
    show fc M' (rho M τ 1 x) = rho M τ 1 (fc M x)
    rw [r1, r1]
    have h1 : fc M' (τ x) = tn (mt M' (τ x)) (-1) := rfl
    rw [h1, h.mt' hx]
    exact (h.turnBack (hm.lt hx)).symm
  · have key : fc M' (τ (mt M (fc M x))) = τ (mt M x) := by
      have h1 : fc M' (τ (mt M (fc M x))) = tn (mt M' (τ (mt M (fc M x)))) (-1) := rfl
      have h2 := h.turn _ hfx
      have h3 : tn (fc M x) 1 = mt M x := tn_back _
      rw [h1, h.mt' (hm.lt hfx), hm.inv hfx, ← h2, h3]
    refine onOrb_symm hm'.inj (rho_lt h hm hfx) ⟨1, ?_⟩
    have r2 : ∀ z, rho M τ (-1) z = τ (mt M z) := fun z => if_neg (by omega)
    show fc M' (rho M τ (-1) (fc M x)) = rho M τ (-1) x
    rw [r2, r2]; exact key
omit h in
theorem rho_face (h : Iso M M' n τ e) (hm : Mates M n) {x y : Nat} (hx : x < 4 * n) (ho : OnOrb (fc M) x y) : OnOrb (fc M') (rho M τ e x) (rho M τ e y) := by
  obtain ⟨k, rfl⟩ := ho
  induction k with
  | zero => exact onOrb_refl _ _
  | succ k ih =>
    rw [iter_succ]
    exact onOrb_trans ih (rho_face1 h hm (iter_lt (fc M) _ hm.inj.lt k x hx))
omit h in
theorem rho_back (h : Iso M M' n τ e) (hm : Mates M n) {x : Nat} (hx : x < 4 * n) : rho M' (back τ (4 * n)) e (rho M τ e x) = x := by
  unfold rho
  split
  · exact back_f h.inj hx
  · rw [h.mt' (hm.lt hx), hm.inv hx]; exact back_f h.inj hx
omit h in
theorem rho_face_iff (h : Iso M M' n τ e) (hm : Mates M n) {x y : Nat} (hx : x < 4 * n) (hy : y < 4 * n) : OnOrb (fc M') (rho M τ e x) (rho M τ e y) ↔ OnOrb (fc M) x y := by
  refine ⟨fun ho => ?_, rho_face h hm hx⟩
  have := rho_face (h.symm hm) (h.mates hm) (rho_lt h hm hx) ho
  rwa [rho_back h hm hx, rho_back h hm hy] at this
open Classical in
theorem FC_le (hm : Mates M n) {z : Nat} (hz : z < 4 * n) : FC M n (z / 4) ≤ FC M' n (τ z / 4) := by
  have hm' := h.mates hm
  refine orbits_le hm.inj hm.per hm'.inj hm'.per (rho M τ e) (fun x hx => rho_lt h hm hx) (fun x => decide (Conn M (z / 4) (x / 4))) (fun x => decide (Conn M' (τ z / 4) (x / 4))) (fun x y hx hy => (rho_face_iff h hm hx hy).1) (fun x hx hp => ?_)
  rw [decide_eq_true_eq] at hp ⊢
  have h1 := hm'.conn_face (c := τ z / 4) (rho_lt h hm hx)
  refine h1.2 ?_
  unfold rho
  split
  · exact h.conn1 hm hz hx hp
  · exact h.conn1 hm hz (hm.lt hx) ((hm.conn hx).1 hp)
open Classical in
theorem VC_le (hm : Mates M n) {z : Nat} (hz : z < 4 * n) : VC M n (z / 4) ≤ VC M' n (τ z / 4) := by
  refine cnt_inj (p := fun d => decide (Conn M (z / 4) d)) (q := fun d => decide (Conn M' (τ z / 4) d)) (fun c => τ (4 * c) / 4) (fun c hc hp => ?_) (fun c d hc hd _ _ he => ?_)
  · rw [decide_eq_true_eq] at hp ⊢
    have h1 := h.lt (x := 4 * c) (by omega)
    refine ⟨by show τ (4 * c) / 4 < n; omega, ?_⟩
    refine h.conn1 hm hz (by omega) ?_
    rw [show 4 * c / 4 = c from by omega]; exact hp
  · have h1 := h.lt (x := 4 * c) (by omega)
    have h2 := h.lt (x := 4 * d) (by omega)
    have he : τ (4 * c) / 4 = τ (4 * d) / 4 := he
    have h3 := (h.symm hm).same h1 he
    rw [back_f h.inj (by omega), back_f h.inj (by omega)] at h3
    omega
/-- A renamed sphere is a sphere. -/
theorem sph (hm : Mates M n) (hs : Sph M n) : Sph M' n := by
  intro c hc
  have hm' := h.mates hm
  have h4 : 4 * c < 4 * n := by omega
  have hb := back_lt h.inj h4
  have a1 := h.FC_le hm hb
  have a2 := h.VC_le hm hb
  have b1 := (h.symm hm).FC_le hm' h4
  have b2 := (h.symm hm).VC_le hm' h4
  rw [f_back h.inj h4, show 4 * c / 4 = c from by omega] at a1 a2
  rw [show 4 * c / 4 = c from by omega] at b1 b2
  have := hs (back τ (4 * n) (4 * c) / 4) (by omega)
  omega
end Iso
/-- x and y lie on one strand, whatever its direction. -/
def Same (M : List Int) (x y : Nat) : Prop := ∀ Q : Nat → Prop, Q x → (∀ z, Q z → Q (mt M z)) → (∀ z, Q z → Q (tn z 2)) → Q y
theorem Same.refl (M : List Int) (x : Nat) : Same M x x := fun _ h _ _ => h
theorem Same.trans {M : List Int} {x y z : Nat} (a : Same M x y) (b : Same M y z) : Same M x z := fun Q h h1 h2 => b Q (a Q h h1 h2) h1 h2
theorem Same.mate {M : List Int} {x y : Nat} (a : Same M x y) : Same M x (mt M y) := fun Q h h1 h2 => h1 _ (a Q h h1 h2)
theorem Same.opp {M : List Int} {x y : Nat} (a : Same M x y) : Same M x (tn y 2) := fun Q h h1 h2 => h2 _ (a Q h h1 h2)
theorem Same.symm {M : List Int} {n x y : Nat} (hm : Mates M n) (hx : x < 4 * n) (a : Same M x y) : Same M y x := by
  refine (a (fun z => z < 4 * n ∧ Same M z x) ⟨hx, Same.refl _ _⟩ (fun z ⟨hz, h⟩ => ⟨hm.lt hz, ?_⟩) (fun z ⟨hz, h⟩ => ⟨tn_lt _ _ _ hz, ?_⟩)).2
  · have := (Same.refl M (mt M z)).mate
    rw [hm.inv hz] at this
    exact this.trans h
  · have := (Same.refl M (tn z 2)).opp
    rw [tn_22] at this
    exact this.trans h
theorem Same.lt {M : List Int} {n x y : Nat} (hm : Mates M n) (hx : x < 4 * n) (a : Same M x y) : y < 4 * n :=
  a (· < 4 * n) hx (fun _ hz => hm.lt hz) (fun _ hz => tn_lt _ _ _ hz)
theorem leasts_len (S M : List Int) : (leasts S M).length = cnt (fun x => outB S x && leastB (sc M) (perOf (sc M) (4 * S.length)) x) (4 * S.length) := by
  unfold leasts cnt
  rw [List.countP_eq_length_filter]
/-- The renamed diagram is in order. -/
theorem Iso.shape {S S' M M' : List Int} {L : Int} {τ : Nat → Nat} {e : Int} (hs : Shape S M L) (hl : S'.length = S.length) (hlm : M'.length = 4 * S.length) (h : Iso M M' S.length τ e) (hsg : ∀ c, c < S.length → nth S' c = 1 ∨ nth S' c = -1)
    (hout : ∀ x, x < 4 * S.length → outB S' (τ x) ≠ outB S' (τ (mt M x))) : Shape S' M' L := by
  have hm' := h.mates hs.mates2
  refine ⟨by rw [hl]; exact hs.few, by rw [hl]; exact hlm, hs.lo, hs.hi, fun c hc => hsg c (by omega), fun y hy => ?_⟩
  have hy : y < 4 * S.length := by omega
  have h1 := hm'.ok.lt y hy
  have h2 := hm'.ne y hy
  unfold mt at h2
  refine ⟨h1.1, by rw [hl]; exact h1.2, by omega, hm'.ok.inv y hy, ?_⟩
  have hb := back_lt h.inj hy
  have h3 := hout _ hb
  rw [← h.mt' hb, f_back h.inj hy] at h3
  exact h3
theorem Iso.valid {S S' M M' : List Int} {L : Int} {τ : Nat → Nat} {e : Int} (hv : vldB S M L = true) (hl : S'.length = S.length) (hlm : M'.length = 4 * S.length) (h : Iso M M' S.length τ e) (hsg : ∀ c, c < S.length → nth S' c = 1 ∨ nth S' c = -1)
    (hout : ∀ x, x < 4 * S.length → outB S' (τ x) ≠ outB S' (τ (mt M x))) : vldB S' M' L = true := by
  obtain ⟨hs, hsp⟩ := vldB_iff.1 hv
  rw [vldB_iff]
  refine ⟨h.shape hs hl hlm hsg hout, ?_⟩
  rw [hl]
  exact h.sph hs.mates2 hsp
theorem tn_inj {x y : Nat} {a : Int} (ha : -4 ≤ a) (h : tn x a = tn y a) : x = y := by unfold tn at h; omega
end Go.Proofs.YtmjoijfafachhaaGreatDoor


