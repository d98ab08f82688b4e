/- Plain law: a renaming of the half-edges carries everything over. -/
import Derived.Test.YtkopbcehfbmnmaaStrand1
namespace Go.Proofs.Ytkopbcehfbmnmaa
open Go Go.RowKit
/-- The way back along a permutation. -/
def back (f : Nat → Nat) (N y : Nat) : Nat := iter f (perOf f N y - 1) y
section
variable {f : Nat → Nat} {N : Nat} (hf : Inj f N)
include hf
theorem back_lt {y : Nat} (hy : y < N) : back f N y < N := iter_lt f N hf.lt _ _ hy
theorem f_back {y : Nat} (hy : y < N) : f (back f N y) = y := by
  have hpp := perOf_all hf y hy
  have := hpp.2.1
  rw [show perOf f N y = (perOf f N y - 1) + 1 from by have := hpp.1; omega, iter_succ] at this
  exact this
theorem back_f {x : Nat} (hx : x < N) : back f N (f x) = x := hf.inj _ _ (back_lt hf (hf.lt x hx)) hx (f_back hf (hf.lt x hx))
theorem back_inj : Inj (back f N) N := ⟨fun x hx => back_lt hf hx, fun x y hx hy he => by rw [← f_back hf hx, he, f_back hf hy]⟩
end
theorem orbits_le {f g per per' : Nat → Nat} {N : Nat} (hf : Inj f N) (hp : ∀ x, x < N → IsPer f x (per x)) (hg : Inj g N) (hp' : ∀ x, x < N → IsPer g x (per' x)) (ρ : Nat → Nat) (hρ : ∀ x, x < N → ρ x < N)
    (P P' : Nat → Bool) (h1 : ∀ x y, x < N → y < N → OnOrb g (ρ x) (ρ y) → OnOrb f x y) (hP : ∀ x, x < N → P x = true → P' (fl g per' (ρ x)) = true) :
    cnt (fun x => leastB f per x && P x) N ≤ cnt (fun x => leastB g per' x && P' x) N := by
  refine cnt_inj (fun x => fl g per' (ρ x)) (fun x hx h => ?_) (fun x y hx hy hpx hpy he => ?_)
  · rw [Bool.and_eq_true] at h
    have hr := hρ x hx
    have hl := fl_lt hg hp' hr
    exact ⟨hl, by rw [(fl_least hg hp' hl).2 (fl_idem hg hp' hr), hP x hx h.2]; rfl⟩
  · rw [Bool.and_eq_true] at hpx hpy
    have hx2 := hρ x hx
    have hy2 := hρ y hy
    have a := (fl_spec hp' hx2).1
    have b := (fl_spec hp' hy2).1
    have he : fl g per' (ρ x) = fl g per' (ρ y) := he
    rw [← he] at b
    have ho := h1 x y hx hy (onOrb_trans a (onOrb_symm hg hy2 b))
    rw [← (fl_least hf hp hx).1 hpx.1, ← (fl_least hf hp hy).1 hpy.1]
    exact (fl_eq hf hp hx ho).symm
/-- A renaming of the half-edges; e = -1: the orientation of the sphere turns. -/
structure Iso (M M' : List Int) (n : Nat) (τ : Nat → Nat) (e : Int) : Prop where
  inj : Inj τ (4 * n)
  mate : ∀ x, x < 4 * n → nth M' (τ x) = (τ (mt M x) : Int)
  turn : ∀ x, x < 4 * n → τ (tn x 1) = tn (τ x) e
  unit : e = 1 ∨ e = -1
namespace Iso
variable {M M' : List Int} {n : Nat} {τ : Nat → Nat} {e : Int} (h : Iso M M' n τ e)
include h
theorem lt {x : Nat} (hx : x < 4 * n) : τ x < 4 * n := h.inj.lt x hx
theorem mt' {x : Nat} (hx : x < 4 * n) : mt M' (τ x) = τ (mt M x) := by
  have := h.mate x hx
  unfold mt at *
  omega
theorem opp {x : Nat} (hx : x < 4 * n) : τ (tn x 2) = tn (τ x) 2 := by
  have h1 := h.turn x hx
  have h2 := h.turn (tn x 1) (tn_lt _ _ _ hx)
  rw [tn_tn _ _ _ (by omega) (by omega) (by omega), h1] at h2
  rw [show (2 : Int) = 1 + 1 from rfl, h2]
  rcases h.unit with rfl | rfl
  · rw [tn_tn _ _ _ (by omega) (by omega) (by omega)]
  · rw [tn_tn _ _ _ (by omega) (by omega) (by omega), ← tn_four _ _ (by omega)]; rfl
theorem turnBack {x : Nat} (hx : x < 4 * n) : τ (tn x (-1)) = tn (τ x) (-e) := by
  have h1 := h.turn (tn x (-1)) (tn_lt _ _ _ hx)
  rw [tn_tn _ _ _ (by omega) (by omega) (by omega), show (-1 : Int) + 1 = 0 from rfl, tn_zero] at h1
  rw [h1]
  rcases h.unit with rfl | rfl <;> rw [tn_tn _ _ _ (by omega) (by omega) (by omega)] <;> exact (tn_zero _).symm
theorem same {x y : Nat} (hx : x < 4 * n) (he : x / 4 = y / 4) : τ x / 4 = τ y / 4 := by
  rcases (show y = x ∨ y = tn x 1 ∨ y = tn x 2 ∨ y = tn x (-1) from by unfold tn; omega) with rfl | rfl | rfl | rfl
  · rfl
  · rw [h.turn x hx, tn_div]
  · rw [h.opp hx, tn_div]
  · rw [h.turnBack hx, tn_div]
theorem symm (hm : Mates M n) : Iso M' M n (back τ (4 * n)) e := by
  have hb : ∀ x, x < 4 * n → back τ (4 * n) x < 4 * n := fun x hx => back_lt h.inj hx
  refine ⟨back_inj h.inj, fun x hx => ?_, fun x hx => ?_, h.unit⟩
  · have h1 := h.mt' (hb x hx)
    rw [f_back h.inj hx] at h1
    rw [h1, back_f h.inj (hm.lt (hb x hx))]
    have := (hm.ok.lt _ (hb x hx)).1
    unfold mt
    omega
  · have h1 : tn x 1 = tn (tn (tn x e) (-e)) 1 := by
      rcases h.unit with rfl | rfl <;> rw [tn_tn x _ _ (by omega) (by omega) (by omega)] <;> rw [show (_ : Int) + _ = 0 from rfl, tn_zero]
    rcases h.unit with rfl | rfl
    · refine h.inj.inj _ _ (hb _ (tn_lt _ _ _ hx)) (tn_lt _ _ _ (hb _ hx)) ?_
      rw [f_back h.inj (tn_lt _ _ _ hx), h.turn _ (hb _ hx), f_back h.inj hx]
    · refine h.inj.inj _ _ (hb _ (tn_lt _ _ _ hx)) (tn_lt _ _ _ (hb _ hx)) ?_
      rw [f_back h.inj (tn_lt _ _ _ hx), h.turnBack (hb _ hx), f_back h.inj hx]; rfl
theorem mates (hm : Mates M n) : Mates M' n := by
  have key : ∀ y, y < 4 * n → ∃ x, x < 4 * n ∧ τ x = y := fun y hy => ⟨_, back_lt h.inj hy, f_back h.inj hy⟩
  refine ⟨⟨fun y hy => ?_, fun y hy => ?_⟩, fun y hy => ?_⟩
  · obtain ⟨x, hx, rfl⟩ := key y hy
    rw [h.mate x hx]
    have := h.lt (hm.lt hx)
    omega
  · obtain ⟨x, hx, rfl⟩ := key y hy
    rw [h.mate x hx, Int.toNat_natCast, h.mate _ (hm.lt hx), hm.inv hx]
  · obtain ⟨x, hx, rfl⟩ := key y hy
    rw [h.mt' hx]
    intro e2
    exact hm.ne x hx (h.inj.inj _ _ (hm.lt hx) hx e2)
theorem conn1 (hm : Mates M n) {x y : Nat} (hx : x < 4 * n) (hy : y < 4 * n) (hc : Conn M (x / 4) (y / 4)) : Conn M' (τ x / 4) (τ y / 4) := by
  have := hc (fun c => c < n ∧ Conn M' (τ x / 4) (τ (4 * c) / 4)) ⟨by omega, by
    rw [h.same (x := 4 * (x / 4)) (y := x) (by omega) (by omega)]; exact Conn.refl _ _⟩ (fun a b ⟨ha, hq⟩ hab => by
      refine ⟨hm.ok.adj_lt ha hab, ?_⟩
      obtain ⟨s, hs, rfl⟩ := hab
      refine hq.step ?_
      have h1 : τ (4 * a) / 4 = τ (4 * a + s) / 4 := h.same (by omega) (by omega)
      have h2 := Mates.adj (M := M') (x := τ (4 * a + s))
      rw [h.mt' (by omega)] at h2
      rw [h1]
      have h3 : τ (4 * ((nth M (4 * a + s)).toNat / 4)) / 4 = τ (mt M (4 * a + s)) / 4 := h.same (by have := hm.lt (x := 4 * a + s) (by omega); unfold mt at this; omega) (by unfold mt; omega)
      rw [h3]; exact h2)
  rw [h.same (x := y) (y := 4 * (y / 4)) hy (by omega)]
  exact this.2
theorem conn (hm : Mates M n) {x y : Nat} (hx : x < 4 * n) (hy : y < 4 * n) : Conn M' (τ x / 4) (τ y / 4) ↔ Conn M (x / 4) (y / 4) := by
  refine ⟨fun hc => ?_, h.conn1 hm hx hy⟩
  have := (h.symm hm).conn1 (h.mates hm) (h.lt hx) (h.lt hy) hc
  rwa [back_f h.inj hx, back_f h.inj hy] at this
/-- Where a face goes. -/
def rho (M : List Int) (τ : Nat → Nat) (e : Int) (x : Nat) : Nat := if e = 1 then τ x else τ (mt M x)
omit h in
theorem rho_lt (h : Iso M M' n τ e) (hm : Mates M n) {x : Nat} (hx : x < 4 * n) : rho M τ e x < 4 * n := by
  unfold rho; split
  · exact h.lt hx
  · exact h.lt (hm.lt hx)
omit h in
theorem rho_face1 (h : Iso M M' n τ e) (hm : Mates M n) {x : Nat} (hx : x < 4 * n) : OnOrb (fc M') (rho M τ e x) (rho M τ e (fc M x)) := by
  have hm' := h.mates hm
  have hfx : fc M x < 4 * n := hm.inj.lt x hx
  rcases h.unit with rfl | rfl
  · refine ⟨1, ?_⟩
    have r1 : ∀ z, rho M τ 1 z = τ z := fun z => if_pos rfl
    show fc M' (rho M τ 1 x) = rho M τ 1 (fc M x)
    rw [r1, r1]
    have h1 : fc M' (τ x) = tn (mt M' (τ x)) (-1) := rfl
    rw [h1, h.mt' hx]
    exact (h.turnBack (hm.lt hx)).symm
  · have key : fc M' (τ (mt M (fc M x))) = τ (mt M x) := by
      have h1 : fc M' (τ (mt M (fc M x))) = tn (mt M' (τ (mt M (fc M x)))) (-1) := rfl
      have h2 := h.turn _ hfx
      have h3 : tn (fc M x) 1 = mt M x := tn_back _
      rw [h1, h.mt' (hm.lt hfx), hm.inv hfx, ← h2, h3]
    refine onOrb_symm hm'.inj (rho_lt h hm hfx) ⟨1, ?_⟩
    have r2 : ∀ z, rho M τ (-1) z = τ (mt M z) := fun z => if_neg (by omega)
    show fc M' (rho M τ (-1) (fc M x)) = rho M τ (-1) x
    rw [r2, r2]; exact key
omit h in
theorem rho_face (h : Iso M M' n τ e) (hm : Mates M n) {x y : Nat} (hx : x < 4 * n) (ho : OnOrb (fc M) x y) : OnOrb (fc M') (rho M τ e x) (rho M τ e y) := by
  obtain ⟨k, rfl⟩ := ho
  induction k with
  | zero => exact onOrb_refl _ _
  | succ k ih =>
    rw [iter_succ]
    exact onOrb_trans ih (rho_face1 h hm (iter_lt (fc M) _ hm.inj.lt k x hx))
omit h in
theorem rho_back (h : Iso M M' n τ e) (hm : Mates M n) {x : Nat} (hx : x < 4 * n) : rho M' (back τ (4 * n)) e (rho M τ e x) = x := by
  unfold rho
  split
  · exact back_f h.inj hx
  · rw [h.mt' (hm.lt hx), hm.inv hx]; exact back_f h.inj hx
omit h in
theorem rho_face_iff (h : Iso M M' n τ e) (hm : Mates M n) {x y : Nat} (hx : x < 4 * n) (hy : y < 4 * n) : OnOrb (fc M') (rho M τ e x) (rho M τ e y) ↔ OnOrb (fc M) x y := by
  refine ⟨fun ho => ?_, rho_face h hm hx⟩
  have := rho_face (h.symm hm) (h.mates hm) (rho_lt h hm hx) ho
  rwa [rho_back h hm hx, rho_back h hm hy] at this
open Classical in
theorem FC_le (hm : Mates M n) {z : Nat} (hz : z < 4 * n) : FC M n (z / 4) ≤ FC M' n (τ z / 4) := by
  have hm' := h.mates hm
  refine orbits_le hm.inj hm.per hm'.inj hm'.per (rho M τ e) (fun x hx => rho_lt h hm hx) (fun x => decide (Conn M (z / 4) (x / 4))) (fun x => decide (Conn M' (τ z / 4) (x / 4))) (fun x y hx hy => (rho_face_iff h hm hx hy).1) (fun x hx hp => ?_)
  rw [decide_eq_true_eq] at hp ⊢
  have h1 := hm'.conn_face (c := τ z / 4) (rho_lt h hm hx)
  refine h1.2 ?_
  unfold rho
  split
  · exact h.conn1 hm hz hx hp
  · exact h.conn1 hm hz (hm.lt hx) ((hm.conn hx).1 hp)
open Classical in
theorem VC_le (hm : Mates M n) {z : Nat} (hz : z < 4 * n) : VC M n (z / 4) ≤ VC M' n (τ z / 4) := by
  refine cnt_inj (p := fun d => decide (Conn M (z / 4) d)) (q := fun d => decide (Conn M' (τ z / 4) d)) (fun c => τ (4 * c) / 4) (fun c hc hp => ?_) (fun c d hc hd _ _ he => ?_)
  · rw [decide_eq_true_eq] at hp ⊢
    have h1 := h.lt (x := 4 * c) (by omega)
    refine ⟨by show τ (4 * c) / 4 < n; omega, ?_⟩
    refine h.conn1 hm hz (by omega) ?_
    rw [show 4 * c / 4 = c from by omega]; exact hp
  · have h1 := h.lt (x := 4 * c) (by omega)
    have h2 := h.lt (x := 4 * d) (by omega)
    have he : τ (4 * c) / 4 = τ (4 * d) / 4 := he
    have h3 := (h.symm hm).same h1 he
    rw [back_f h.inj (by omega), back_f h.inj (by omega)] at h3
    omega
/-- A renamed sphere is a sphere. -/
theorem sph (hm : Mates M n) (hs : Sph M n) : Sph M' n := by
  intro c hc
  have hm' := h.mates hm
  have h4 : 4 * c < 4 * n := by omega
  have hb := back_lt h.inj h4
  have a1 := h.FC_le hm hb
  have a2 := h.VC_le hm hb
  have b1 := (h.symm hm).FC_le hm' h4
  have b2 := (h.symm hm).VC_le hm' h4
  rw [f_back h.inj h4, show 4 * c / 4 = c from by omega] at a1 a2
  rw [show 4 * c / 4 = c from by omega] at b1 b2
  have := hs (back τ (4 * n) (4 * c) / 4) (by omega)
  omega
end Iso
/-- x and y lie on one strand, whatever its direction. -/
def Same (M : List Int) (x y : Nat) : Prop := ∀ Q : Nat → Prop, Q x → (∀ z, Q z → Q (mt M z)) → (∀ z, Q z → Q (tn z 2)) → Q y
theorem Same.refl (M : List Int) (x : Nat) : Same M x x := fun _ h _ _ => h
theorem Same.trans {M : List Int} {x y z : Nat} (a : Same M x y) (b : Same M y z) : Same M x z := fun Q h h1 h2 => b Q (a Q h h1 h2) h1 h2
theorem Same.mate {M : List Int} {x y : Nat} (a : Same M x y) : Same M x (mt M y) := fun Q h h1 h2 => h1 _ (a Q h h1 h2)
theorem Same.opp {M : List Int} {x y : Nat} (a : Same M x y) : Same M x (tn y 2) := fun Q h h1 h2 => h2 _ (a Q h h1 h2)
theorem Same.symm {M : List Int} {n x y : Nat} (hm : Mates M n) (hx : x < 4 * n) (a : Same M x y) : Same M y x := by
  refine (a (fun z => z < 4 * n ∧ Same M z x) ⟨hx, Same.refl _ _⟩ (fun z ⟨hz, h⟩ => ⟨hm.lt hz, ?_⟩) (fun z ⟨hz, h⟩ => ⟨tn_lt _ _ _ hz, ?_⟩)).2
  · have := (Same.refl M (mt M z)).mate
    rw [hm.inv hz] at this
    exact this.trans h
  · have := (Same.refl M (tn z 2)).opp
    rw [tn_22] at this
    exact this.trans h
theorem Same.lt {M : List Int} {n x y : Nat} (hm : Mates M n) (hx : x < 4 * n) (a : Same M x y) : y < 4 * n :=
  a (· < 4 * n) hx (fun _ hz => hm.lt hz) (fun _ hz => tn_lt _ _ _ hz)
theorem st_same {S M : List Int} {L : Int} (hs : Shape S M L) {x : Nat} (hx : x < 4 * S.length) : Same M x (st S M x) := by
  have h1 : Same M x (sg S M x) := by
    unfold sg; split
    · exact Same.refl _ _
    · exact (Same.refl _ _).mate
  refine h1.trans ?_
  obtain ⟨k, hk⟩ := (fl_spec hs.perS (hs.sg_lt hx)).1
  unfold st
  rw [← hk]
  generalize sg S M x = y
  clear hk h1
  induction k with
  | zero => exact Same.refl _ _
  | succ k ih => rw [iter_succ]; exact (ih.mate).opp
theorem st_iff {S M : List Int} {L : Int} (hs : Shape S M L) {x y : Nat} (hx : x < 4 * S.length) (hy : y < 4 * S.length) : st S M x = st S M y ↔ Same M x y := by
  constructor
  · intro h
    have h1 := st_same hs hx
    have h2 := st_same hs hy
    rw [h] at h1
    exact h1.trans (h2.symm hs.mates2 hy)
  · intro h
    exact (h (fun z => z < 4 * S.length ∧ st S M x = st S M z) ⟨hx, rfl⟩ (fun z ⟨hz, e⟩ => ⟨hs.mt_lt hz, by rw [hs.st_mt hz]; exact e⟩) (fun z ⟨hz, e⟩ => ⟨tn_lt _ _ _ hz, by rw [hs.st_tn2 hz]; exact e⟩)).2
theorem Iso.same1 {M M' : List Int} {n : Nat} {τ : Nat → Nat} {e : Int} (h : Iso M M' n τ e) (hm : Mates M n) {x y : Nat} (hx : x < 4 * n) (a : Same M x y) : Same M' (τ x) (τ y) := by
  refine (a (fun z => z < 4 * n ∧ Same M' (τ x) (τ z)) ⟨hx, Same.refl _ _⟩ (fun z ⟨hz, h1⟩ => ⟨hm.lt hz, ?_⟩) (fun z ⟨hz, h1⟩ => ⟨tn_lt _ _ _ hz, ?_⟩)).2
  · rw [← h.mt' hz]; exact h1.mate
  · rw [h.opp hz]; exact h1.opp
theorem Iso.same_iff {M M' : List Int} {n : Nat} {τ : Nat → Nat} {e : Int} (h : Iso M M' n τ e) (hm : Mates M n) {x y : Nat} (hx : x < 4 * n) (hy : y < 4 * n) : Same M' (τ x) (τ y) ↔ Same M x y := by
  refine ⟨fun a => ?_, h.same1 hm hx⟩
  have := (h.symm hm).same1 (h.mates hm) (h.lt hx) a
  rwa [back_f h.inj hx, back_f h.inj hy] at this
/-- The strands, carried over. -/
theorem Iso.st_eq {S S' M M' : List Int} {L L' : Int} {τ : Nat → Nat} {e : Int} (hs : Shape S M L) (hs' : Shape S' M' L') (hl : S'.length = S.length) (h : Iso M M' S.length τ e) {x y : Nat} (hx : x < 4 * S.length) (hy : y < 4 * S.length) : st S' M' (τ x) = st S' M' (τ y) ↔ st S M x = st S M y := by
  have h1 := h.lt hx
  have h2 := h.lt hy
  rw [st_iff hs' (by omega) (by omega), h.same_iff hs.mates2 hx hy, st_iff hs hx hy]
theorem leasts_len (S M : List Int) : (leasts S M).length = cnt (fun x => outB S x && leastB (sc M) (perOf (sc M) (4 * S.length)) x) (4 * S.length) := by
  unfold leasts cnt
  rw [List.countP_eq_length_filter]
theorem leasts_cnt {S M : List Int} {L : Int} (hs : Shape S M L) {x : Nat} (hx : x < 4 * S.length) : (outB S x && leastB (sc M) (perOf (sc M) (4 * S.length)) x) = true ↔ outB S x = true ∧ st S M x = x := by
  rw [Bool.and_eq_true]
  constructor
  · rintro ⟨h1, h2⟩
    exact ⟨h1, by rw [Shape.st_fl h1]; exact (fl_least hs.injS hs.perS hx).1 h2⟩
  · rintro ⟨h1, h2⟩
    rw [Shape.st_fl h1] at h2
    exact ⟨h1, (fl_least hs.injS hs.perS hx).2 h2⟩
/-- A one-to-one way of strands. -/
theorem leasts_le {S S' M M' : List Int} {L L' : Int} (hs : Shape S M L) (hs' : Shape S' M' L') (τ : Nat → Nat) (hτ : ∀ x, x < 4 * S.length → τ x < 4 * S'.length) (h : ∀ x y, x < 4 * S.length → y < 4 * S.length → st S' M' (τ x) = st S' M' (τ y) → st S M x = st S M y) : (leasts S M).length ≤ (leasts S' M').length := by
  rw [leasts_len, leasts_len]
  refine cnt_inj (fun x => st S' M' (τ x)) (fun x hx hp => ?_) (fun x y hx hy hpx hpy he => ?_)
  · have h1 := hτ x hx
    exact ⟨hs'.st_lt h1, (leasts_cnt hs' (hs'.st_lt h1)).2 ⟨hs'.st_out h1, hs'.st_idem h1⟩⟩
  · have h1 := ((leasts_cnt hs hx).1 hpx).2
    have h2 := ((leasts_cnt hs hy).1 hpy).2
    have h3 := h x y hx hy he
    omega
theorem Iso.leasts_eq {S S' M M' : List Int} {L L' : Int} {τ : Nat → Nat} {e : Int} (hs : Shape S M L) (hs' : Shape S' M' L') (hl : S'.length = S.length) (h : Iso M M' S.length τ e) : (leasts S' M').length = (leasts S M).length := by
  refine Nat.le_antisymm ?_ ?_
  · refine leasts_le hs' hs (back τ (4 * S.length)) (fun x hx => back_lt h.inj (by omega)) (fun x y hx hy he => ?_)
    have h1 := back_lt h.inj (y := x) (by omega)
    have h2 := back_lt h.inj (y := y) (by omega)
    have := (h.st_eq hs hs' hl h1 h2).2 he
    rwa [f_back h.inj (by omega), f_back h.inj (by omega)] at this
  · exact leasts_le hs hs' τ (fun x hx => by have := h.lt hx; omega) (fun x y hx hy he => (h.st_eq hs hs' hl hx hy).1 he)
/-- The renamed diagram is in order. -/
theorem Iso.shape {S S' M M' : List Int} {L : Int} {τ : Nat → Nat} {e : Int} (hs : Shape S M L) (hl : S'.length = S.length) (hlm : M'.length = 4 * S.length) (h : Iso M M' S.length τ e) (hsg : ∀ c, c < S.length → nth S' c = 1 ∨ nth S' c = -1)
    (hout : ∀ x, x < 4 * S.length → outB S' (τ x) ≠ outB S' (τ (mt M x))) : Shape S' M' L := by
  have hm' := h.mates hs.mates2
  refine ⟨by rw [hl]; exact hs.few, by rw [hl]; exact hlm, hs.lo, hs.hi, fun c hc => hsg c (by omega), fun y hy => ?_⟩
  have hy : y < 4 * S.length := by omega
  have h1 := hm'.ok.lt y hy
  have h2 := hm'.ne y hy
  unfold mt at h2
  refine ⟨h1.1, by rw [hl]; exact h1.2, by omega, hm'.ok.inv y hy, ?_⟩
  have hb := back_lt h.inj hy
  have h3 := hout _ hb
  rw [← h.mt' hb, f_back h.inj hy] at h3
  exact h3
theorem Iso.valid {S S' M M' : List Int} {L : Int} {τ : Nat → Nat} {e : Int} (hv : vldB S M L = true) (hl : S'.length = S.length) (hlm : M'.length = 4 * S.length) (h : Iso M M' S.length τ e) (hsg : ∀ c, c < S.length → nth S' c = 1 ∨ nth S' c = -1)
    (hout : ∀ x, x < 4 * S.length → outB S' (τ x) ≠ outB S' (τ (mt M x))) : vldB S' M' L = true := by
  obtain ⟨hs, hsp⟩ := vldB_iff.1 hv
  rw [vldB_iff]
  refine ⟨h.shape hs hl hlm hsg hout, ?_⟩
  rw [hl]
  exact h.sph hs.mates2 hsp
end Go.Proofs.Ytkopbcehfbmnmaa
