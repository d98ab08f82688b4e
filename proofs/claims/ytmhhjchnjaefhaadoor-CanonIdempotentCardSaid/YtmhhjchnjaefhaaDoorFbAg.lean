/- Plain laws: strands of half-edges; owners; the crossings of two strands are even in number; renamings of half-edges; what mirror.move computes. Plain: the breadth-first numbering of a component from a crossing, and its code. -/
import Derived.WalkKit
import Derived.WalkSpells
import Derived.WalkLawsBesides
import Derived.Deep.AppendSrc
import Derived.Deep.LoopGhost
import Derived.Deep.QuietTactic
import Derived.Deep.RegionWith
import Derived.Deep.DeepMust
import Derived.Deep.DeepFit
import Derived.BigQuiet
import Derived.Lib.Hide
import Derived.Outline
import Derived.Test.YtmhhjchnjaefhaaDoorProg
import Derived.Test.YtmhhjchnjaefhaaDoorFbAa
import Derived.Test.YtmhhjchnjaefhaaDoorFbAc
import Derived.Test.YtmhhjchnjaefhaaDoorFbAd
import Derived.Test.YtmhhjchnjaefhaaDoorFbAe
import Derived.Test.YtmhhjchnjaefhaaDoorFbAf
import Derived.Test.YtmhhjchnjaefhaaDoorFbAb
namespace Go.Proofs.YtmhhjchnjaefhaaDoor
open Go Go.RowKit
/-- f, turned at k. -/
def upd (f : Nat → Int × Int) (k : Nat) (p : Int × Int) : Nat → Int × Int := fun i => if i = k then p else f i
theorem Shape.outS {S M : List Int} {L : Int} (hs : Shape S M L) (h : Nat) (hh : h < 4 * S.length) : outB S (sc M h) = outB S h := by
  have h1 := (hs.mate h hh).2.2.2.2
  have h2 := hs.toNat_lt h hh
  have h3 := hs.sign ((nth M h).toNat / 4) (by omega)
  unfold sc
  generalize (nth M h).toNat = m at *
  have h4 : tn m 2 / 4 = m / 4 := tn_div m 2
  have h5 : tn m 2 % 4 = (m % 4 + 2) % 4 := by rw [tn_mod]; omega
  have h6 : outB S (tn m 2) = !(outB S m) := by
    unfold outB
    rw [h4, h5]
    have : m % 4 = 0 ∨ m % 4 = 1 ∨ m % 4 = 2 ∨ m % 4 = 3 := by omega
    rcases this with e | e | e | e <;> rcases h3 with g | g <;> simp [e, g]
  rw [h6]
  cases hx : outB S h <;> cases hy : outB S m <;> simp_all
theorem strandsL_eq {S M : List Int} {L : Int} (hv : vldB S M L = true) : strandsL S M L = clTo (sc M) (perOf (sc M) (4 * S.length)) (outB S) (4 * S.length) := by
  have hs := vldB_shape hv
  unfold strandsL
  rw [if_pos hv]
  exact cycs_eq hs.injS (perOf_all hs.injS) (outB S) fun x hx => hs.outS x hx
/-- The outgoing end of x's edge. -/
def sg (S M : List Int) (x : Nat) : Nat := if outB S x = true then x else mt M x
/-- The strand of x, by its least half-edge. -/
def st (S M : List Int) (x : Nat) : Nat := fl (sc M) (perOf (sc M) (4 * S.length)) (sg S M x)
theorem tn_tn (x : Nat) (a b : Int) (ha : -4 ≤ a) (hb : -4 ≤ b) (hab : -8 ≤ a + b) : tn (tn x a) b = tn x (a + b) := by
  have h1 := tn_div x a
  have h2 := tn_mod x a
  unfold tn at *
  omega
theorem tn_zero (x : Nat) : tn x 0 = x := by unfold tn; omega
theorem tn_four (x : Nat) (a : Int) (ha : -4 ≤ a) : tn x (a + 4) = tn x a := by unfold tn; omega
theorem tn_22 (x : Nat) : tn (tn x 2) 2 = x := by rw [tn_tn x 2 2 (by omega) (by omega) (by omega)]; unfold tn; omega
namespace Shape
variable {S M : List Int} {L : Int} (hs : Shape S M L)
include hs
theorem out_tn2 (x : Nat) (hx : x < 4 * S.length) : outB S (tn x 2) = !(outB S x) := by
  have h3 := hs.sign (x / 4) (by omega)
  have h4 : tn x 2 / 4 = x / 4 := tn_div x 2
  have h5 : tn x 2 % 4 = (x % 4 + 2) % 4 := by rw [tn_mod]; omega
  unfold outB
  rw [h4, h5]
  have : x % 4 = 0 ∨ x % 4 = 1 ∨ x % 4 = 2 ∨ x % 4 = 3 := by omega
  rcases this with e | e | e | e <;> rcases h3 with g | g <;> simp [e, g]
theorem mt_lt {x : Nat} (hx : x < 4 * S.length) : mt M x < 4 * S.length := hs.toNat_lt x hx
theorem mt_mt {x : Nat} (hx : x < 4 * S.length) : mt M (mt M x) = x := hs.invol x hx
theorem out_mt {x : Nat} (hx : x < 4 * S.length) : outB S (mt M x) = !(outB S x) := by
  have := (hs.mate x hx).2.2.2.2
  unfold mt
  cases h : outB S x <;> cases g : outB S (nth M x).toNat <;> simp_all
theorem sg_lt {x : Nat} (hx : x < 4 * S.length) : sg S M x < 4 * S.length := by
  unfold sg; split
  · exact hx
  · exact hs.mt_lt hx
theorem sg_out {x : Nat} (hx : x < 4 * S.length) : outB S (sg S M x) = true := by
  unfold sg; split
  · assumption
  · rename_i h
    rw [hs.out_mt hx]
    simpa using h
omit hs in
theorem sg_of {x : Nat} (h : outB S x = true) : sg S M x = x := if_pos h
theorem perS : ∀ x, x < 4 * S.length → IsPer (sc M) x (perOf (sc M) (4 * S.length) x) := perOf_all hs.injS
theorem st_mt {x : Nat} (hx : x < 4 * S.length) : st S M (mt M x) = st S M x := by
  unfold st sg
  rw [hs.out_mt hx]
  cases h : outB S x
  · simp
  · simp [hs.mt_mt hx]
theorem st_step {x : Nat} (hx : x < 4 * S.length) (ho : outB S x = true) : st S M (sc M x) = st S M x := by
  have h1 : outB S (sc M x) = true := by rw [hs.outS x hx]; exact ho
  unfold st
  rw [sg_of h1, sg_of ho]
  exact fl_step hs.injS hs.perS hx
theorem st_tn2 {x : Nat} (hx : x < 4 * S.length) : st S M (tn x 2) = st S M x := by
  have key : ∀ y, y < 4 * S.length → outB S y = false → st S M (tn y 2) = st S M y := by
    intro y hy h
    have h1 : outB S (mt M y) = true := by rw [hs.out_mt hy, h]; rfl
    have h2 := hs.st_step (hs.mt_lt hy) h1
    have h3 : sc M (mt M y) = tn y 2 := by
      have h4 : sc M (mt M y) = tn (mt M (mt M y)) 2 := rfl
      rw [h4, hs.mt_mt hy]
    rw [h3, hs.st_mt hy] at h2
    exact h2
  cases h : outB S x
  · exact key x hx h
  · have h1 : outB S (tn x 2) = false := by rw [hs.out_tn2 x hx, h]; rfl
    have h2 := key _ (tn_lt x _ 2 hx) h1
    rw [tn_22] at h2
    exact h2.symm
theorem st_lt {x : Nat} (hx : x < 4 * S.length) : st S M x < 4 * S.length := fl_lt hs.injS hs.perS (hs.sg_lt hx)
theorem out_orb {x y : Nat} (hx : x < 4 * S.length) (ho : OnOrb (sc M) x y) : outB S y = outB S x := by
  obtain ⟨k, rfl⟩ := ho
  induction k with
  | zero => rfl
  | succ k ih => rw [iter_succ, hs.outS _ (iter_lt (sc M) _ hs.injS.lt k x hx), ih]
theorem st_out {x : Nat} (hx : x < 4 * S.length) : outB S (st S M x) = true := by
  unfold st
  rw [hs.out_orb (hs.sg_lt hx) (fl_spec hs.perS (hs.sg_lt hx)).1]
  exact hs.sg_out hx
theorem st_idem {x : Nat} (hx : x < 4 * S.length) : st S M (st S M x) = st S M x := by
  have h := hs.st_out hx
  have h2 : st S M (st S M x) = fl (sc M) (perOf (sc M) (4 * S.length)) (st S M x) := by
    rw [st, sg_of h]
  rw [h2]
  exact fl_idem hs.injS hs.perS (hs.sg_lt hx)
omit hs in
theorem st_fl {x : Nat} (h : outB S x = true) : st S M x = fl (sc M) (perOf (sc M) (4 * S.length)) x := by rw [st, sg_of h]
end Shape
/-- The strands' least half-edges. -/
def leasts (S M : List Int) : List Nat := (List.range (4 * S.length)).filter fun h => outB S h && leastB (sc M) (perOf (sc M) (4 * S.length)) h
theorem strandsL_leasts {S M : List Int} {L : Int} (hv : vldB S M L = true) : strandsL S M L = (leasts S M).map fun h => orb (sc M) h (perOf (sc M) (4 * S.length) h) := strandsL_eq hv
/-- The outgoing half-edge of the strand over. -/
def oo (S : List Int) (c : Nat) : Nat := if nth S c = 1 then 4 * c + 1 else 4 * c + 3
/-- The way back along a permutation. -/
def back (f : Nat → Nat) (N y : Nat) : Nat := iter f (perOf f N y - 1) y
section
variable {f : Nat → Nat} {N : Nat} (hf : Inj f N)
include hf
theorem back_lt {y : Nat} (hy : y < N) : back f N y < N := iter_lt f N hf.lt _ _ hy
theorem f_back {y : Nat} (hy : y < N) : f (back f N y) = y := by
  have hpp := perOf_all hf y hy
  have := hpp.2.1
  rw [show perOf f N y = (perOf f N y - 1) + 1 from by have := hpp.1; omega, iter_succ] at this
  exact this
theorem back_f {x : Nat} (hx : x < N) : back f N (f x) = x := hf.inj _ _ (back_lt hf (hf.lt x hx)) hx (f_back hf (hf.lt x hx))
theorem back_inj : Inj (back f N) N := ⟨fun x hx => back_lt hf hx, fun x y hx hy he => by rw [← f_back hf hx, he, f_back hf hy]⟩
end
theorem orbits_le {f g per per' : Nat → Nat} {N : Nat} (hf : Inj f N) (hp : ∀ x, x < N → IsPer f x (per x)) (hg : Inj g N) (hp' : ∀ x, x < N → IsPer g x (per' x)) (ρ : Nat → Nat) (hρ : ∀ x, x < N → ρ x < N)
    (P P' : Nat → Bool) (h1 : ∀ x y, x < N → y < N → OnOrb g (ρ x) (ρ y) → OnOrb f x y) (hP : ∀ x, x < N → P x = true → P' (fl g per' (ρ x)) = true) :
    cnt (fun x => leastB f per x && P x) N ≤ cnt (fun x => leastB g per' x && P' x) N := by
  refine cnt_inj (fun x => fl g per' (ρ x)) (fun x hx h => ?_) (fun x y hx hy hpx hpy he => ?_)
  · rw [Bool.and_eq_true] at h
    have hr := hρ x hx
    have hl := fl_lt hg hp' hr
    exact ⟨hl, by rw [(fl_least hg hp' hl).2 (fl_idem hg hp' hr), hP x hx h.2]; rfl⟩
  · rw [Bool.and_eq_true] at hpx hpy
    have hx2 := hρ x hx
    have hy2 := hρ y hy
    have a := (fl_spec hp' hx2).1
    have b := (fl_spec hp' hy2).1
    have he : fl g per' (ρ x) = fl g per' (ρ y) := he
    rw [← he] at b
    have ho := h1 x y hx hy (onOrb_trans a (onOrb_symm hg hy2 b))
    rw [← (fl_least hf hp hx).1 hpx.1, ← (fl_least hf hp hy).1 hpy.1]
    exact (fl_eq hf hp hx ho).symm
/-- A renaming of the half-edges; e = -1: the orientation of the sphere turns. -/
structure Iso (M M' : List Int) (n : Nat) (τ : Nat → Nat) (e : Int) : Prop where
  inj : Inj τ (4 * n)
  mate : ∀ x, x < 4 * n → nth M' (τ x) = (τ (mt M x) : Int)
  turn : ∀ x, x < 4 * n → τ (tn x 1) = tn (τ x) e
  unit : e = 1 ∨ e = -1
namespace Iso
variable {M M' : List Int} {n : Nat} {τ : Nat → Nat} {e : Int} (h : Iso M M' n τ e)
include h
theorem lt {x : Nat} (hx : x < 4 * n) : τ x < 4 * n := h.inj.lt x hx
theorem mt' {x : Nat} (hx : x < 4 * n) : mt M' (τ x) = τ (mt M x) := by
  have := h.mate x hx
  unfold mt at *
  omega
theorem opp {x : Nat} (hx : x < 4 * n) : τ (tn x 2) = tn (τ x) 2 := by
  have h1 := h.turn x hx
  have h2 := h.turn (tn x 1) (tn_lt _ _ _ hx)
  rw [tn_tn _ _ _ (by omega) (by omega) (by omega), h1] at h2
  rw [show (2 : Int) = 1 + 1 from rfl, h2]
  rcases h.unit with rfl | rfl
  · rw [tn_tn _ _ _ (by omega) (by omega) (by omega)]
  · rw [tn_tn _ _ _ (by omega) (by omega) (by omega), ← tn_four _ _ (by omega)]; rfl
theorem turnBack {x : Nat} (hx : x < 4 * n) : τ (tn x (-1)) = tn (τ x) (-e) := by
  have h1 := h.turn (tn x (-1)) (tn_lt _ _ _ hx)
  rw [tn_tn _ _ _ (by omega) (by omega) (by omega), show (-1 : Int) + 1 = 0 from rfl, tn_zero] at h1
  rw [h1]
  rcases h.unit with rfl | rfl <;> rw [tn_tn _ _ _ (by omega) (by omega) (by omega)] <;> exact (tn_zero _).symm
theorem same {x y : Nat} (hx : x < 4 * n) (he : x / 4 = y / 4) : τ x / 4 = τ y / 4 := by
  rcases (show y = x ∨ y = tn x 1 ∨ y = tn x 2 ∨ y = tn x (-1) from by unfold tn; omega) with rfl | rfl | rfl | rfl
  · rfl
  · rw [h.turn x hx, tn_div]
  · rw [h.opp hx, tn_div]
  · rw [h.turnBack hx, tn_div]
theorem symm (hm : Mates M n) : Iso M' M n (back τ (4 * n)) e := by
  have hb : ∀ x, x < 4 * n → back τ (4 * n) x < 4 * n := fun x hx => back_lt h.inj hx
  refine ⟨back_inj h.inj, fun x hx => ?_, fun x hx => ?_, h.unit⟩
  · have h1 := h.mt' (hb x hx)
    rw [f_back h.inj hx] at h1
    rw [h1, back_f h.inj (hm.lt (hb x hx))]
    have := (hm.ok.lt _ (hb x hx)).1
    unfold mt
    omega
  · have h1 : tn x 1 = tn (tn (tn x e) (-e)) 1 := by
      rcases h.unit with rfl | rfl <;> rw [tn_tn x _ _ (by omega) (by omega) (by omega)] <;> rw [show (_ : Int) + _ = 0 from rfl, tn_zero]
    rcases h.unit with rfl | rfl
    · refine h.inj.inj _ _ (hb _ (tn_lt _ _ _ hx)) (tn_lt _ _ _ (hb _ hx)) ?_
      rw [f_back h.inj (tn_lt _ _ _ hx), h.turn _ (hb _ hx), f_back h.inj hx]
    · refine h.inj.inj _ _ (hb _ (tn_lt _ _ _ hx)) (tn_lt _ _ _ (hb _ hx)) ?_
      rw [f_back h.inj (tn_lt _ _ _ hx), h.turnBack (hb _ hx), f_back h.inj hx]; rfl
theorem mates (hm : Mates M n) : Mates M' n := by
  have key : ∀ y, y < 4 * n → ∃ x, x < 4 * n ∧ τ x = y := fun y hy => ⟨_, back_lt h.inj hy, f_back h.inj hy⟩
  refine ⟨⟨fun y hy => ?_, fun y hy => ?_⟩, fun y hy => ?_⟩
  · obtain ⟨x, hx, rfl⟩ := key y hy
    rw [h.mate x hx]
    have := h.lt (hm.lt hx)
    omega
  · obtain ⟨x, hx, rfl⟩ := key y hy
    rw [h.mate x hx, Int.toNat_natCast, h.mate _ (hm.lt hx), hm.inv hx]
  · obtain ⟨x, hx, rfl⟩ := key y hy
    rw [h.mt' hx]
    intro e2
    exact hm.ne x hx (h.inj.inj _ _ (hm.lt hx) hx e2)
theorem conn1 (hm : Mates M n) {x y : Nat} (hx : x < 4 * n) (hy : y < 4 * n) (hc : Conn M (x / 4) (y / 4)) : Conn M' (τ x / 4) (τ y / 4) := by
  have := hc (fun c => c < n ∧ Conn M' (τ x / 4) (τ (4 * c) / 4)) ⟨by omega, by
    rw [h.same (x := 4 * (x / 4)) (y := x) (by omega) (by omega)]; exact Conn.refl _ _⟩ (fun a b ⟨ha, hq⟩ hab => by
      refine ⟨hm.ok.adj_lt ha hab, ?_⟩
      obtain ⟨s, hs, rfl⟩ := hab
      refine hq.step ?_
      have h1 : τ (4 * a) / 4 = τ (4 * a + s) / 4 := h.same (by omega) (by omega)
      have h2 := Mates.adj (M := M') (x := τ (4 * a + s))
      rw [h.mt' (by omega)] at h2
      rw [h1]
      have h3 : τ (4 * ((nth M (4 * a + s)).toNat / 4)) / 4 = τ (mt M (4 * a + s)) / 4 := h.same (by have := hm.lt (x := 4 * a + s) (by omega); unfold mt at this; omega) (by unfold mt; omega)
      rw [h3]; exact h2)
  rw [h.same (x := y) (y := 4 * (y / 4)) hy (by omega)]
  exact this.2
theorem conn (hm : Mates M n) {x y : Nat} (hx : x < 4 * n) (hy : y < 4 * n) : Conn M' (τ x / 4) (τ y / 4) ↔ Conn M (x / 4) (y / 4) := by
  refine ⟨fun hc => ?_, h.conn1 hm hx hy⟩
  have := (h.symm hm).conn1 (h.mates hm) (h.lt hx) (h.lt hy) hc
  rwa [back_f h.inj hx, back_f h.inj hy] at this
/-- Where a face goes. -/
def rho (M : List Int) (τ : Nat → Nat) (e : Int) (x : Nat) : Nat := if e = 1 then τ x else τ (mt M x)
omit h in
theorem rho_lt (h : Iso M M' n τ e) (hm : Mates M n) {x : Nat} (hx : x < 4 * n) : rho M τ e x < 4 * n := by
  unfold rho; split
  · exact h.lt hx
  · exact h.lt (hm.lt hx)
omit h in
theorem rho_face1 (h : Iso M M' n τ e) (hm : Mates M n) {x : Nat} (hx : x < 4 * n) : OnOrb (fc M') (rho M τ e x) (rho M τ e (fc M x)) := by
  have hm' := h.mates hm
  have hfx : fc M x < 4 * n := hm.inj.lt x hx
  rcases h.unit with rfl | rfl
  · refine ⟨1, ?_⟩
    have r1 : ∀ z, rho M τ 1 z = τ z := fun z => if_pos rfl
    show fc M' (rho M τ 1 x) = rho M τ 1 (fc M x)
    rw [r1, r1]
    have h1 : fc M' (τ x) = tn (mt M' (τ x)) (-1) := rfl
    rw [h1, h.mt' hx]
    exact (h.turnBack (hm.lt hx)).symm
  · have key : fc M' (τ (mt M (fc M x))) = τ (mt M x) := by
      have h1 : fc M' (τ (mt M (fc M x))) = tn (mt M' (τ (mt M (fc M x)))) (-1) := rfl
      have h2 := h.turn _ hfx
      have h3 : tn (fc M x) 1 = mt M x := tn_back _
      rw [h1, h.mt' (hm.lt hfx), hm.inv hfx, ← h2, h3]
    refine onOrb_symm hm'.inj (rho_lt h hm hfx) ⟨1, ?_⟩
    have r2 : ∀ z, rho M τ (-1) z = τ (mt M z) := fun z => if_neg (by omega)
    show fc M' (rho M τ (-1) (fc M x)) = rho M τ (-1) x
    rw [r2, r2]; exact key
omit h in
theorem rho_face (h : Iso M M' n τ e) (hm : Mates M n) {x y : Nat} (hx : x < 4 * n) (ho : OnOrb (fc M) x y) : OnOrb (fc M') (rho M τ e x) (rho M τ e y) := by
  obtain ⟨k, rfl⟩ := ho
  induction k with
  | zero => exact onOrb_refl _ _
  | succ k ih =>
    rw [iter_succ]
    exact onOrb_trans ih (rho_face1 h hm (iter_lt (fc M) _ hm.inj.lt k x hx))
omit h in
theorem rho_back (h : Iso M M' n τ e) (hm : Mates M n) {x : Nat} (hx : x < 4 * n) : rho M' (back τ (4 * n)) e (rho M τ e x) = x := by
  unfold rho
  split
  · exact back_f h.inj hx
  · rw [h.mt' (hm.lt hx), hm.inv hx]; exact back_f h.inj hx
omit h in
theorem rho_face_iff (h : Iso M M' n τ e) (hm : Mates M n) {x y : Nat} (hx : x < 4 * n) (hy : y < 4 * n) : OnOrb (fc M') (rho M τ e x) (rho M τ e y) ↔ OnOrb (fc M) x y := by
  refine ⟨fun ho => ?_, rho_face h hm hx⟩
  have := rho_face (h.symm hm) (h.mates hm) (rho_lt h hm hx) ho
  rwa [rho_back h hm hx, rho_back h hm hy] at this
open Classical in
theorem FC_le (hm : Mates M n) {z : Nat} (hz : z < 4 * n) : FC M n (z / 4) ≤ FC M' n (τ z / 4) := by
  have hm' := h.mates hm
  refine orbits_le hm.inj hm.per hm'.inj hm'.per (rho M τ e) (fun x hx => rho_lt h hm hx) (fun x => decide (Conn M (z / 4) (x / 4))) (fun x => decide (Conn M' (τ z / 4) (x / 4))) (fun x y hx hy => (rho_face_iff h hm hx hy).1) (fun x hx hp => ?_)
  rw [decide_eq_true_eq] at hp ⊢
  have h1 := hm'.conn_face (c := τ z / 4) (rho_lt h hm hx)
  refine h1.2 ?_
  unfold rho
  split
  · exact h.conn1 hm hz hx hp
  · exact h.conn1 hm hz (hm.lt hx) ((hm.conn hx).1 hp)
open Classical in
theorem VC_le (hm : Mates M n) {z : Nat} (hz : z < 4 * n) : VC M n (z / 4) ≤ VC M' n (τ z / 4) := by
  refine cnt_inj (p := fun d => decide (Conn M (z / 4) d)) (q := fun d => decide (Conn M' (τ z / 4) d)) (fun c => τ (4 * c) / 4) (fun c hc hp => ?_) (fun c d hc hd _ _ he => ?_)
  · rw [decide_eq_true_eq] at hp ⊢
    have h1 := h.lt (x := 4 * c) (by omega)
    refine ⟨by show τ (4 * c) / 4 < n; omega, ?_⟩
    refine h.conn1 hm hz (by omega) ?_
    rw [show 4 * c / 4 = c from by omega]; exact hp
  · have h1 := h.lt (x := 4 * c) (by omega)
    have h2 := h.lt (x := 4 * d) (by omega)
    have he : τ (4 * c) / 4 = τ (4 * d) / 4 := he
    have h3 := (h.symm hm).same h1 he
    rw [back_f h.inj (by omega), back_f h.inj (by omega)] at h3
    omega
/-- A renamed sphere is a sphere. -/
theorem sph (hm : Mates M n) (hs : Sph M n) : Sph M' n := by
  intro c hc
  have hm' := h.mates hm
  have h4 : 4 * c < 4 * n := by omega
  have hb := back_lt h.inj h4
  have a1 := h.FC_le hm hb
  have a2 := h.VC_le hm hb
  have b1 := (h.symm hm).FC_le hm' h4
  have b2 := (h.symm hm).VC_le hm' h4
  rw [f_back h.inj h4, show 4 * c / 4 = c from by omega] at a1 a2
  rw [show 4 * c / 4 = c from by omega] at b1 b2
  have := hs (back τ (4 * n) (4 * c) / 4) (by omega)
  omega
end Iso
/-- x and y lie on one strand, whatever its direction. -/
def Same (M : List Int) (x y : Nat) : Prop := ∀ Q : Nat → Prop, Q x → (∀ z, Q z → Q (mt M z)) → (∀ z, Q z → Q (tn z 2)) → Q y
theorem Same.refl (M : List Int) (x : Nat) : Same M x x := fun _ h _ _ => h
theorem Same.trans {M : List Int} {x y z : Nat} (a : Same M x y) (b : Same M y z) : Same M x z := fun Q h h1 h2 => b Q (a Q h h1 h2) h1 h2
theorem Same.mate {M : List Int} {x y : Nat} (a : Same M x y) : Same M x (mt M y) := fun Q h h1 h2 => h1 _ (a Q h h1 h2)
theorem Same.opp {M : List Int} {x y : Nat} (a : Same M x y) : Same M x (tn y 2) := fun Q h h1 h2 => h2 _ (a Q h h1 h2)
theorem Same.symm {M : List Int} {n x y : Nat} (hm : Mates M n) (hx : x < 4 * n) (a : Same M x y) : Same M y x := by
  refine (a (fun z => z < 4 * n ∧ Same M z x) ⟨hx, Same.refl _ _⟩ (fun z ⟨hz, h⟩ => ⟨hm.lt hz, ?_⟩) (fun z ⟨hz, h⟩ => ⟨tn_lt _ _ _ hz, ?_⟩)).2
  · have := (Same.refl M (mt M z)).mate
    rw [hm.inv hz] at this
    exact this.trans h
  · have := (Same.refl M (tn z 2)).opp
    rw [tn_22] at this
    exact this.trans h
theorem Same.lt {M : List Int} {n x y : Nat} (hm : Mates M n) (hx : x < 4 * n) (a : Same M x y) : y < 4 * n :=
  a (· < 4 * n) hx (fun _ hz => hm.lt hz) (fun _ hz => tn_lt _ _ _ hz)
theorem st_same {S M : List Int} {L : Int} (hs : Shape S M L) {x : Nat} (hx : x < 4 * S.length) : Same M x (st S M x) := by
  have h1 : Same M x (sg S M x) := by
    unfold sg; split
    · exact Same.refl _ _
    · exact (Same.refl _ _).mate
  refine h1.trans ?_
  obtain ⟨k, hk⟩ := (fl_spec hs.perS (hs.sg_lt hx)).1
  unfold st
  rw [← hk]
  generalize sg S M x = y
  clear hk h1
  induction k with
  | zero => exact Same.refl _ _
  | succ k ih => rw [iter_succ]; exact (ih.mate).opp
theorem st_iff {S M : List Int} {L : Int} (hs : Shape S M L) {x y : Nat} (hx : x < 4 * S.length) (hy : y < 4 * S.length) : st S M x = st S M y ↔ Same M x y := by
  constructor
  · intro h
    have h1 := st_same hs hx
    have h2 := st_same hs hy
    rw [h] at h1
    exact h1.trans (h2.symm hs.mates2 hy)
  · intro h
    exact (h (fun z => z < 4 * S.length ∧ st S M x = st S M z) ⟨hx, rfl⟩ (fun z ⟨hz, e⟩ => ⟨hs.mt_lt hz, by rw [hs.st_mt hz]; exact e⟩) (fun z ⟨hz, e⟩ => ⟨tn_lt _ _ _ hz, by rw [hs.st_tn2 hz]; exact e⟩)).2
theorem Iso.same1 {M M' : List Int} {n : Nat} {τ : Nat → Nat} {e : Int} (h : Iso M M' n τ e) (hm : Mates M n) {x y : Nat} (hx : x < 4 * n) (a : Same M x y) : Same M' (τ x) (τ y) := by
  refine (a (fun z => z < 4 * n ∧ Same M' (τ x) (τ z)) ⟨hx, Same.refl _ _⟩ (fun z ⟨hz, h1⟩ => ⟨hm.lt hz, ?_⟩) (fun z ⟨hz, h1⟩ => ⟨tn_lt _ _ _ hz, ?_⟩)).2
  · rw [← h.mt' hz]; exact h1.mate
  · rw [h.opp hz]; exact h1.opp
theorem Iso.same_iff {M M' : List Int} {n : Nat} {τ : Nat → Nat} {e : Int} (h : Iso M M' n τ e) (hm : Mates M n) {x y : Nat} (hx : x < 4 * n) (hy : y < 4 * n) : Same M' (τ x) (τ y) ↔ Same M x y := by
  refine ⟨fun a => ?_, h.same1 hm hx⟩
  have := (h.symm hm).same1 (h.mates hm) (h.lt hx) a
  rwa [back_f h.inj hx, back_f h.inj hy] at this
/-- The strands, carried over. -/
theorem Iso.st_eq {S S' M M' : List Int} {L L' : Int} {τ : Nat → Nat} {e : Int} (hs : Shape S M L) (hs' : Shape S' M' L') (hl : S'.length = S.length) (h : Iso M M' S.length τ e) {x y : Nat} (hx : x < 4 * S.length) (hy : y < 4 * S.length) : st S' M' (τ x) = st S' M' (τ y) ↔ st S M x = st S M y := by
  have h1 := h.lt hx
  have h2 := h.lt hy
  rw [st_iff hs' (by omega) (by omega), h.same_iff hs.mates2 hx hy, st_iff hs hx hy]
theorem leasts_len (S M : List Int) : (leasts S M).length = cnt (fun x => outB S x && leastB (sc M) (perOf (sc M) (4 * S.length)) x) (4 * S.length) := by
  unfold leasts cnt
  rw [List.countP_eq_length_filter]
theorem leasts_cnt {S M : List Int} {L : Int} (hs : Shape S M L) {x : Nat} (hx : x < 4 * S.length) : (outB S x && leastB (sc M) (perOf (sc M) (4 * S.length)) x) = true ↔ outB S x = true ∧ st S M x = x := by
  rw [Bool.and_eq_true]
  constructor
  · rintro ⟨h1, h2⟩
    exact ⟨h1, by rw [Shape.st_fl h1]; exact (fl_least hs.injS hs.perS hx).1 h2⟩
  · rintro ⟨h1, h2⟩
    rw [Shape.st_fl h1] at h2
    exact ⟨h1, (fl_least hs.injS hs.perS hx).2 h2⟩
/-- A one-to-one way of strands. -/
theorem leasts_le {S S' M M' : List Int} {L L' : Int} (hs : Shape S M L) (hs' : Shape S' M' L') (τ : Nat → Nat) (hτ : ∀ x, x < 4 * S.length → τ x < 4 * S'.length) (h : ∀ x y, x < 4 * S.length → y < 4 * S.length → st S' M' (τ x) = st S' M' (τ y) → st S M x = st S M y) : (leasts S M).length ≤ (leasts S' M').length := by
  rw [leasts_len, leasts_len]
  refine cnt_inj (fun x => st S' M' (τ x)) (fun x hx hp => ?_) (fun x y hx hy hpx hpy he => ?_)
  · have h1 := hτ x hx
    exact ⟨hs'.st_lt h1, (leasts_cnt hs' (hs'.st_lt h1)).2 ⟨hs'.st_out h1, hs'.st_idem h1⟩⟩
  · have h1 := ((leasts_cnt hs hx).1 hpx).2
    have h2 := ((leasts_cnt hs hy).1 hpy).2
    have h3 := h x y hx hy he
    omega
theorem Iso.leasts_eq {S S' M M' : List Int} {L L' : Int} {τ : Nat → Nat} {e : Int} (hs : Shape S M L) (hs' : Shape S' M' L') (hl : S'.length = S.length) (h : Iso M M' S.length τ e) : (leasts S' M').length = (leasts S M).length := by
  refine Nat.le_antisymm ?_ ?_
  · refine leasts_le hs' hs (back τ (4 * S.length)) (fun x hx => back_lt h.inj (by omega)) (fun x y hx hy he => ?_)
    have h1 := back_lt h.inj (y := x) (by omega)
    have h2 := back_lt h.inj (y := y) (by omega)
    have := (h.st_eq hs hs' hl h1 h2).2 he
    rwa [f_back h.inj (by omega), f_back h.inj (by omega)] at this
  · exact leasts_le hs hs' τ (fun x hx => by have := h.lt hx; omega) (fun x y hx hy he => (h.st_eq hs hs' hl hx hy).1 he)
/-- The renamed diagram is in order. -/
theorem Iso.shape {S S' M M' : List Int} {L : Int} {τ : Nat → Nat} {e : Int} (hs : Shape S M L) (hl : S'.length = S.length) (hlm : M'.length = 4 * S.length) (h : Iso M M' S.length τ e) (hsg : ∀ c, c < S.length → nth S' c = 1 ∨ nth S' c = -1)
    (hout : ∀ x, x < 4 * S.length → outB S' (τ x) ≠ outB S' (τ (mt M x))) : Shape S' M' L := by
  have hm' := h.mates hs.mates2
  refine ⟨by rw [hl]; exact hs.few, by rw [hl]; exact hlm, hs.lo, hs.hi, fun c hc => hsg c (by omega), fun y hy => ?_⟩
  have hy : y < 4 * S.length := by omega
  have h1 := hm'.ok.lt y hy
  have h2 := hm'.ne y hy
  unfold mt at h2
  refine ⟨h1.1, by rw [hl]; exact h1.2, by omega, hm'.ok.inv y hy, ?_⟩
  have hb := back_lt h.inj hy
  have h3 := hout _ hb
  rw [← h.mt' hb, f_back h.inj hy] at h3
  exact h3
theorem Iso.valid {S S' M M' : List Int} {L : Int} {τ : Nat → Nat} {e : Int} (hv : vldB S M L = true) (hl : S'.length = S.length) (hlm : M'.length = 4 * S.length) (h : Iso M M' S.length τ e) (hsg : ∀ c, c < S.length → nth S' c = 1 ∨ nth S' c = -1)
    (hout : ∀ x, x < 4 * S.length → outB S' (τ x) ≠ outB S' (τ (mt M x))) : vldB S' M' L = true := by
  obtain ⟨hs, hsp⟩ := vldB_iff.1 hv
  rw [vldB_iff]
  refine ⟨h.shape hs hl hlm hsg hout, ?_⟩
  rw [hl]
  exact h.sph hs.mates2 hsp
theorem tn_inj {x y : Nat} {a : Int} (ha : -4 ≤ a) (h : tn x a = tn y a) : x = y := by unfold tn at h; omega
end Go.Proofs.YtmhhjchnjaefhaaDoor


namespace Go.Proofs.YtmhhjchnjaefhaaDoor
open Go Go.RowKit
/-- A crossing appended, if it is not there. -/
def addN (o : List Nat) (c : Nat) : List Nat := if c ∈ o then o else o ++ [c]
/-- The crossings met from crossing c by its first k half-edges appended. -/
def ordRow (M : List Int) (c : Nat) : Nat → List Nat → List Nat
  | 0, o => o
  | k + 1, o => addN (ordRow M c k o) (mt M (4 * c + k) / 4)
/-- The order after i rounds from crossing r. -/
def ordTo (M : List Int) (r : Nat) : Nat → List Nat
  | 0 => [r]
  | i + 1 => if i < (ordTo M r i).length then ordRow M ((ordTo M r i).getD i 0) 4 (ordTo M r i) else ordTo M r i
/-- The numbering from crossing r among n crossings. -/
def ordL (M : List Int) (r n : Nat) : List Nat := ordTo M r n
theorem mem_addN {o : List Nat} {c d : Nat} : d ∈ addN o c ↔ d ∈ o ∨ d = c := by
  unfold addN; split
  · rename_i h
    constructor
    · exact .inl
    · rintro (h1 | rfl) <;> assumption
  · simp
theorem addN_pre (o : List Nat) (c : Nat) : o <+: addN o c := by
  unfold addN; split
  · exact List.prefix_refl _
  · exact List.prefix_append _ _
theorem addN_nodup {o : List Nat} {c : Nat} (h : o.Nodup) : (addN o c).Nodup := by
  unfold addN; split
  · exact h
  · rename_i hc
    rw [List.nodup_append]
    exact ⟨h, by simp, by rintro a ha b hb rfl; simp only [List.mem_singleton] at hb; subst hb; exact hc ha⟩
theorem ordRow_pre (M : List Int) (c : Nat) (o : List Nat) : ∀ k, o <+: ordRow M c k o
  | 0 => List.prefix_refl _
  | k + 1 => (ordRow_pre M c o k).trans (addN_pre _ _)
theorem ordRow_step (M : List Int) (c : Nat) (o : List Nat) {k l : Nat} (h : k ≤ l) : ordRow M c k o <+: ordRow M c l o := by
  induction l with
  | zero => obtain rfl : k = 0 := by omega
            exact List.prefix_refl _
  | succ l ih =>
    rcases Nat.lt_or_ge l k with g | g
    · obtain rfl : k = l + 1 := by omega
      exact List.prefix_refl _
    · exact (ih g).trans (addN_pre _ _)
theorem ordRow_mem (M : List Int) (c : Nat) (o : List Nat) {k s : Nat} (h : s < k) : mt M (4 * c + s) / 4 ∈ ordRow M c k o :=
  (ordRow_step M c o (show s + 1 ≤ k from h)).subset (mem_addN.2 (.inr rfl))
theorem ordRow_nodup (M : List Int) (c : Nat) {o : List Nat} (h : o.Nodup) : ∀ k, (ordRow M c k o).Nodup
  | 0 => h
  | k + 1 => addN_nodup (ordRow_nodup M c h k)
theorem ordRow_cases {M : List Int} {c : Nat} {o : List Nat} {d : Nat} : ∀ {k}, d ∈ ordRow M c k o → d ∈ o ∨ ∃ s, s < k ∧ d = mt M (4 * c + s) / 4
  | 0, h => .inl h
  | k + 1, h => by
    rcases mem_addN.1 h with h | rfl
    · rcases ordRow_cases h with h | ⟨s, hs, e⟩
      · exact .inl h
      · exact .inr ⟨s, by omega, e⟩
    · exact .inr ⟨k, by omega, rfl⟩
theorem ordTo_next (M : List Int) (r i : Nat) : ordTo M r i <+: ordTo M r (i + 1) := by
  rw [ordTo]; split
  · exact ordRow_pre _ _ _ _
  · exact List.prefix_refl _
theorem ordTo_pre (M : List Int) (r : Nat) {i j : Nat} (h : i ≤ j) : ordTo M r i <+: ordTo M r j := by
  induction j with
  | zero => obtain rfl : i = 0 := by omega
            exact List.prefix_refl _
  | succ j ih =>
    rcases Nat.lt_or_ge j i with g | g
    · obtain rfl : i = j + 1 := by omega
      exact List.prefix_refl _
    · exact (ih g).trans (ordTo_next M r j)
theorem ordTo_nodup (M : List Int) (r : Nat) : ∀ i, (ordTo M r i).Nodup
  | 0 => by simp [ordTo]
  | i + 1 => by
    rw [ordTo]; split
    · exact ordRow_nodup _ _ (ordTo_nodup M r i) _
    · exact ordTo_nodup M r i
theorem ordTo_lt {M : List Int} {r n : Nat} (hm : ∀ x, x < 4 * n → mt M x < 4 * n) (hr : r < n) : ∀ i, ∀ c, c ∈ ordTo M r i → c < n
  | 0, c, h => by simp [ordTo] at h; omega
  | i + 1, c, h => by
    rw [ordTo] at h
    split at h
    · rename_i hi
      rcases ordRow_cases h with h | ⟨s, hs, rfl⟩
      · exact ordTo_lt hm hr i c h
      · have h1 := ordTo_lt hm hr i ((ordTo M r i).getD i 0) (by rw [List.getD_eq_getElem?_getD, List.getElem?_eq_getElem hi]; exact List.getElem_mem hi)
        have := hm (4 * (ordTo M r i).getD i 0 + s) (by omega)
        omega
    · exact ordTo_lt hm hr i c h
theorem ordTo_pos (M : List Int) (r i : Nat) : 0 < (ordTo M r i).length := by
  have := (ordTo_pre M r (Nat.zero_le i)).length_le
  simp [ordTo] at this
  omega
theorem nodup_few : ∀ (n : Nat) (l : List Nat), l.Nodup → (∀ c, c ∈ l → c < n) → l.length ≤ n
  | n, l, h, g => by
    have : l ⊆ List.range n := fun c hc => List.mem_range.2 (g c hc)
    have h2 := List.Nodup.length_le_of_subset h this
    simpa using h2
theorem ordTo_len {M : List Int} {r n : Nat} (hm : ∀ x, x < 4 * n → mt M x < 4 * n) (hr : r < n) (i : Nat) : (ordTo M r i).length ≤ n :=
  nodup_few n _ (ordTo_nodup M r i) (ordTo_lt hm hr i)
theorem pre_getD {o o' : List Nat} (h : o <+: o') {j : Nat} (hj : j < o.length) : o'.getD j 0 = o.getD j 0 := by
  obtain ⟨t, rfl⟩ := h
  rw [List.getD_eq_getElem?_getD, List.getD_eq_getElem?_getD, List.getElem?_append_left hj]
/-- All neighbours of the first i crossings of an order lie in it. -/
def Cl (M : List Int) (o : List Nat) (i : Nat) : Prop := i ≤ o.length ∧ ∀ j, j < i → ∀ s, s < 4 → mt M (4 * o.getD j 0 + s) / 4 ∈ o
theorem Cl.zero (M : List Int) (o : List Nat) : Cl M o 0 := ⟨Nat.zero_le _, fun j hj => by omega⟩
theorem Cl.next {M : List Int} {o : List Nat} {i : Nat} (h : Cl M o i) (hi : i < o.length) : Cl M (ordRow M (o.getD i 0) 4 o) (i + 1) :=
  ⟨Nat.lt_of_lt_of_le hi (ordRow_pre _ _ _ _).length_le, fun j hj s hs => by
    rw [pre_getD (ordRow_pre M _ o 4) (by omega)]
    rcases Nat.lt_or_ge j i with g | g
    · exact (ordRow_pre M _ o 4).subset (h.2 j g s hs)
    · obtain rfl : j = i := by omega
      exact ordRow_mem _ _ _ hs⟩
theorem ordTo_fix {M : List Int} {r i : Nat} (h : (ordTo M r i).length ≤ i) : ∀ d, ordTo M r (i + d) = ordTo M r i
  | 0 => rfl
  | d + 1 => by
    rw [← Nat.add_assoc, ordTo, ordTo_fix h d, if_neg (by omega)]
theorem ordTo_end {M : List Int} {r i n : Nat} (h : (ordTo M r i).length ≤ i) (hn : i ≤ n) : ordTo M r i = ordL M r n := by
  obtain ⟨d, rfl⟩ := Nat.exists_eq_add_of_le hn
  exact (ordTo_fix h d).symm
/-- The first k + 1 numbers of a crossing's row in the code. -/
def rowC (S M : List Int) (o : List Nat) (c k : Nat) : List Int := nth S c :: (List.range k).map fun s => (((4 * o.idxOf (mt M (4 * c + s) / 4) + mt M (4 * c + s) % 4 : Nat)) : Int)
/-- The first i rows of the code of an order. -/
def codeTo (S M : List Int) (o : List Nat) (i : Nat) : List Int := (List.range i).flatMap fun j => rowC S M o (o.getD j 0) 4
/-- The code from crossing r. -/
def codeL (S M : List Int) (r n : Nat) : List Int := codeTo S M (ordL M r n) (ordL M r n).length
theorem idx_pre {o o' : List Nat} (h : o <+: o') {c : Nat} (hc : c ∈ o) : o'.idxOf c = o.idxOf c := by
  obtain ⟨t, rfl⟩ := h
  rw [List.idxOf_append, if_pos hc]
theorem rowC_pre {S M : List Int} {o o' : List Nat} {c k : Nat} (h : o <+: o') (hc : ∀ s, s < k → mt M (4 * c + s) / 4 ∈ o) : rowC S M o' c k = rowC S M o c k := by
  unfold rowC
  congr 1
  apply List.map_congr_left
  intro s hs
  rw [idx_pre h (hc s (List.mem_range.1 hs))]
theorem rowC_len (S M : List Int) (o : List Nat) (c k : Nat) : (rowC S M o c k).length = k + 1 := by simp [rowC]
theorem rowC_snoc (S M : List Int) (o : List Nat) (c k : Nat) : rowC S M o c (k + 1) = rowC S M o c k ++ [(((4 * o.idxOf (mt M (4 * c + k) / 4) + mt M (4 * c + k) % 4 : Nat)) : Int)] := by
  unfold rowC; rw [List.range_succ, List.map_append]; rfl
theorem codeTo_succ (S M : List Int) (o : List Nat) (i : Nat) : codeTo S M o (i + 1) = codeTo S M o i ++ rowC S M o (o.getD i 0) 4 := by
  unfold codeTo; rw [List.range_succ, List.flatMap_append]; simp
theorem codeTo_len (S M : List Int) (o : List Nat) : ∀ i, (codeTo S M o i).length = 5 * i
  | 0 => rfl
  | i + 1 => by rw [codeTo_succ, List.length_append, codeTo_len S M o i, rowC_len]; omega
theorem codeTo_pre {S M : List Int} {o o' : List Nat} (h : o <+: o') : ∀ {i}, Cl M o i → codeTo S M o' i = codeTo S M o i
  | 0, _ => rfl
  | i + 1, g => by
    rw [codeTo_succ, codeTo_succ, codeTo_pre h ⟨by have := g.1; omega, fun j hj => g.2 j (by omega)⟩, pre_getD h (by have := g.1; omega), rowC_pre h (g.2 i (by omega))]
theorem codeTo_more (S M : List Int) (o : List Nat) {i j : Nat} (h : i ≤ j) : codeTo S M o i <+: codeTo S M o j := by
  obtain ⟨d, rfl⟩ := Nat.exists_eq_add_of_le h
  unfold codeTo
  rw [List.range_add, List.flatMap_append]
  exact List.prefix_append _ _
theorem codeL_len (S M : List Int) (r n : Nat) : (codeL S M r n).length = 5 * (ordL M r n).length := codeTo_len _ _ _ _
theorem ordTo_cl (M : List Int) (r : Nat) : ∀ i, i ≤ (ordTo M r i).length → Cl M (ordTo M r i) i
  | 0, _ => Cl.zero _ _
  | i + 1, h => by
    have hi : i < (ordTo M r i).length := by
      rcases Nat.lt_or_ge i (ordTo M r i).length with g | g
      · exact g
      · rw [ordTo_fix g 1] at h; omega
    rw [ordTo, if_pos hi]
    exact (ordTo_cl M r i (by omega)).next hi
/-- The code of the first i rounds is the beginning of the code. -/
theorem codeTo_codeL {S M : List Int} {r n i : Nat} (hi : i ≤ (ordTo M r i).length) (hn : i ≤ n) : codeTo S M (ordTo M r i) i <+: codeL S M r n := by
  have hp : ordTo M r i <+: ordL M r n := ordTo_pre M r hn
  rw [← codeTo_pre hp (ordTo_cl M r i hi)]
  exact codeTo_more _ _ _ (Nat.le_trans hi hp.length_le)
/-- A beginning that compares unequal decides. -/
theorem cmpL_pre {s s' t : List Int} (h : s <+: s') (hl : s.length ≤ t.length) (hc : cmpL s (t.take s.length) ≠ 0) : cmpL s' t = cmpL s (t.take s.length) := by
  obtain ⟨u, rfl⟩ := h
  have := cmpL_append u (t.drop s.length) (s := s) (t := t.take s.length) (by simp; omega)
  rw [List.take_append_drop, if_neg hc] at this
  exact this
end Go.Proofs.YtmhhjchnjaefhaaDoor


