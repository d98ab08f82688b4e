/- Plain law: two edges are a cut just if a part falls apart without them. -/
import Derived.Test.YtmjoijfafachhaaConD
namespace Go.Proofs.Ytmjoijfafachhaa
open Go Go.RowKit
/-- An orbit that leaves a set comes back. -/
theorem orb_return {f : Nat → Nat} {N : Nat} (hf : Inj f N) (P : Nat → Prop) {x : Nat} (hx : x < N) (h1 : P x) (h2 : ¬ P (f x)) : ∃ z, OnOrb f x z ∧ z < N ∧ ¬ P z ∧ P (f z) := by
  have hp := perOf_all hf x hx
  have key : ∀ k, P (iter f (k + 1) x) → ∃ j, j < k + 1 ∧ ¬ P (iter f j x) ∧ P (f (iter f j x)) := fun k => by
    induction k with
    | zero => intro h; exact absurd h h2
    | succ k ih =>
      intro h
      by_cases g : P (iter f (k + 1) x)
      · obtain ⟨j, _, b⟩ := ih g
        exact ⟨j, by omega, b⟩
      · exact ⟨k + 1, by omega, g, by rw [iter_succ] at h; exact h⟩
  obtain ⟨j, _, b, c⟩ := key (perOf f N x - 1) (by rw [show perOf f N x - 1 + 1 = perOf f N x by have := hp.1; omega, hp.2.1]; exact h1)
  exact ⟨_, ⟨j, rfl⟩, iter_lt f N hf.lt j x hx, b, c⟩
/-- An edge other than two leads from c to d. -/
def AdjW (M : List Int) (x y c d : Nat) : Prop := ∃ s, s < 4 ∧ 4 * c + s ≠ x ∧ mt M (4 * c + s) ≠ x ∧ 4 * c + s ≠ y ∧ mt M (4 * c + s) ≠ y ∧ mt M (4 * c + s) / 4 = d
def ConnW (M : List Int) (x y c d : Nat) : Prop := ∀ Q : Nat → Prop, Q c → (∀ a b, Q a → AdjW M x y a b → Q b) → Q d
theorem ConnW.refl (M : List Int) (x y c : Nat) : ConnW M x y c c := fun _ h _ => h
theorem ConnW.trans {M : List Int} {x y a b c : Nat} (h1 : ConnW M x y a b) (h2 : ConnW M x y b c) : ConnW M x y a c := fun Q h hs => h2 Q (h1 Q h hs) hs
theorem ConnW.step {M : List Int} {x y a b c : Nat} (h1 : ConnW M x y a b) (h : AdjW M x y b c) : ConnW M x y a c := fun Q h0 hs => hs b c (h1 Q h0 hs) h
theorem ConnW.conn {M : List Int} {x y a b : Nat} (h : ConnW M x y a b) : Conn M a b := fun Q h0 hs => h Q h0 fun c d hc ⟨s, h4, _, _, _, _, e⟩ => hs c d hc ⟨s, h4, e⟩
section
variable {M : List Int} {n x y : Nat} (hm : Mates M n)
include hm
theorem adjW_symm {c d : Nat} (hc : c < n) (h : AdjW M x y c d) : AdjW M x y d c := by
  obtain ⟨s, h4, a, b, e, g, rfl⟩ := h
  have hl : 4 * c + s < 4 * n := by omega
  have hi := hm.inv hl
  refine ⟨mt M (4 * c + s) % 4, by omega, ?_⟩
  rw [show 4 * (mt M (4 * c + s) / 4) + mt M (4 * c + s) % 4 = mt M (4 * c + s) by omega, hi]
  exact ⟨b, a, g, e, by omega⟩
theorem adjW_lt {c d : Nat} (hc : c < n) (h : AdjW M x y c d) : d < n := by
  obtain ⟨s, h4, _, _, _, _, rfl⟩ := h
  have := hm.lt (x := 4 * c + s) (by omega)
  omega
theorem connW_symm {c d : Nat} (hc : c < n) (h : ConnW M x y c d) : ConnW M x y d c :=
  (h (fun d => d < n ∧ ConnW M x y d c) ⟨hc, ConnW.refl M x y c⟩ fun _ b ⟨ha, hq⟩ hab => ⟨adjW_lt hm ha hab, ((ConnW.refl M x y b).step (adjW_symm hm ha hab)).trans hq⟩).2
theorem connW_eqv : Eqv (ConnW M x y) n := ⟨fun _ _ => ConnW.refl _ _ _ _, fun _ _ ha _ h => connW_symm hm ha h, fun _ _ _ _ _ _ a b => a.trans b⟩
omit hm in
theorem connW_swap {c d : Nat} (h : ConnW M x y c d) : ConnW M y x c d := fun Q h0 hs => h Q h0 fun a b ha ⟨s, h4, u, v, e, g, k⟩ => hs a b ha ⟨s, h4, e, g, u, v, k⟩
end
section
variable {S M : List Int} {L : Int} (hv : vldB S M L = true) {x y : Nat} (hx : x < 4 * S.length) (hy : y < 4 * S.length) (hox : outB S x = true) (hoy : outB S y = true) (hxy : x ≠ y)
include hv hx hy hox hoy hxy
/-- An end that is lost makes a cut. -/
theorem lost_cut (hno : ¬ ConnW M x y (x / 4) (mt M x / 4)) : OnOrb (fc M) x y ∧ OnOrb (fc M) (mt M x) (mt M y) := by
  have _ := hxy
  obtain ⟨hs, _⟩ := vldB_iff.1 hv
  have hm := hs.mates2
  have hp := hm.inv hx
  have hq := hm.inv hy
  have o1 := hs.out_mt hx
  have o2 := hs.out_mt hy
  -- edges that leave the set are the two
  have out : ∀ z, z < 4 * S.length → ConnW M x y (x / 4) (z / 4) → ¬ ConnW M x y (x / 4) (mt M z / 4) → z = x ∨ mt M z = x ∨ z = y ∨ mt M z = y := fun z hz h1 h2 => by
    refine Classical.byContradiction fun h => h2 (h1.step ⟨z % 4, by omega, ?_⟩)
    rw [show 4 * (z / 4) + z % 4 = z by omega]
    exact ⟨fun e => h (.inl e), fun e => h (.inr (.inl e)), fun e => h (.inr (.inr (.inl e))), fun e => h (.inr (.inr (.inr e))), rfl⟩
  have inn : ∀ z, z < 4 * S.length → ¬ ConnW M x y (x / 4) (z / 4) → ConnW M x y (x / 4) (mt M z / 4) → z = x ∨ mt M z = x ∨ z = y ∨ mt M z = y := fun z hz h1 h2 => by
    have h3 := out (mt M z) (hm.lt hz) h2 (by rw [hm.inv hz]; exact h1)
    rw [hm.inv hz] at h3
    rcases h3 with h | h | h | h
    · exact .inr (.inl h)
    · exact .inl h
    · exact .inr (.inr (.inr h))
    · exact .inr (.inr (.inl h))
  have hxA := ConnW.refl M x y (x / 4)
  -- the strand comes back through y
  obtain ⟨z, z1, z2, z3, z4⟩ := orb_return hs.injS (fun u => ConnW M x y (x / 4) (u / 4)) hx hxA (by
    rw [show sc M x = tn (mt M x) 2 from rfl, tn_div]; exact hno)
  rw [show sc M z = tn (mt M z) 2 from rfl, tn_div] at z4
  have zo := hs.out_orb hx z1
  have zy : z = y := by
    rcases inn z z2 z3 z4 with h | h | h | h
    · exact absurd (by rw [h]; exact hxA) z3
    · have := hs.out_mt z2
      rw [h, hox, zo, hox] at this; cases this
    · exact h
    · have := hs.out_mt z2
      rw [h, hoy, zo, hox] at this; cases this
  rw [zy] at z3 z4
  -- the faces
  obtain ⟨u, u1, u2, u3, u4⟩ := orb_return hm.inj (fun u => ConnW M x y (x / 4) (u / 4)) hx hxA (by
    rw [show fc M x = tn (mt M x) (-1) from rfl, tn_div]; exact hno)
  rw [show fc M u = tn (mt M u) (-1) from rfl, tn_div] at u4
  obtain ⟨v, v1, v2, v3, v4⟩ := orb_return hm.inj (fun u => ¬ ConnW M x y (x / 4) (u / 4)) (hm.lt hx) hno (by
    rw [show fc M (mt M x) = tn (mt M (mt M x)) (-1) from rfl, tn_div, hp]; exact fun h => h hxA)
  rw [show fc M v = tn (mt M v) (-1) from rfl, tn_div] at v4
  have v3 : ConnW M x y (x / 4) (v / 4) := Classical.byContradiction v3
  have hne := face_ne hv hx
  constructor
  · rcases inn u u2 u3 u4 with h | h | h | h
    · exact absurd (by rw [h]; exact hxA) u3
    · have : u = mt M x := by rw [← h, hm.inv u2]
      rw [this] at u1
      exact absurd u1 hne
    · rw [← h]; exact u1
    · have : u = mt M y := by rw [← h, hm.inv u2]
      rw [this] at u3
      exact absurd z4 u3
  · rcases out v v2 v3 v4 with h | h | h | h
    · rw [h] at v1
      exact absurd (onOrb_symm hm.inj (hm.lt hx) v1) hne
    · have : v = mt M x := by rw [← h, hm.inv v2]
      rw [this] at v3
      exact absurd v3 hno
    · rw [h] at v3
      exact absurd v3 z3
    · have : v = mt M y := by rw [← h, hm.inv v2]
      rw [← this]; exact v1
/-- How many parts remain without the two edges. -/
theorem cut_iff : (CT M S.length < nc (ConnW M x y) (fun _ => true) S.length) ↔ (OnOrb (fc M) x y ∧ OnOrb (fc M) (mt M x) (mt M y)) := by
  obtain ⟨hs, hsp⟩ := vldB_iff.1 hv
  have hm := hs.mates2
  have hp := hm.inv hx
  have hq := hm.inv hy
  constructor
  · intro hlt
    by_cases c1 : ConnW M x y (x / 4) (mt M x / 4)
    · by_cases c2 : ConnW M x y (y / 4) (mt M y / 4)
      · exfalso
        have sub : ∀ a b, a < S.length → Conn M a b → ConnW M x y a b := fun a b ha h =>
          (h (fun b => b < S.length ∧ ConnW M x y a b) ⟨ha, ConnW.refl M x y a⟩ fun c d ⟨hc, hq1⟩ hcd => by
            have hd := hm.ok.adj_lt hc hcd
            obtain ⟨s, h4, rfl⟩ := hcd
            refine ⟨hd, hq1.trans ?_⟩
            have hl : 4 * c + s < 4 * S.length := by omega
            have hz : (4 * c + s) / 4 = c := by omega
            show ConnW M x y c (mt M (4 * c + s) / 4)
            by_cases g1 : 4 * c + s = x
            · rw [g1, show c = x / 4 by omega]; exact c1
            by_cases g2 : mt M (4 * c + s) = x
            · have : 4 * c + s = mt M x := by rw [← g2, hm.inv hl]
              rw [g2, show c = mt M x / 4 by omega]
              exact connW_symm hm (by omega) c1
            by_cases g3 : 4 * c + s = y
            · rw [g3, show c = y / 4 by omega]; exact c2
            by_cases g4 : mt M (4 * c + s) = y
            · have : 4 * c + s = mt M y := by rw [← g4, hm.inv hl]
              rw [g4, show c = mt M y / 4 by omega]
              exact connW_symm hm (by omega) c2
            exact (ConnW.refl M x y c).step ⟨s, h4, g1, g2, g3, g4, rfl⟩).2
        have E : Eqv (Conn M) S.length := ⟨fun _ _ => Conn.refl _ _, fun _ _ ha _ h => hm.ok.conn_symm ha h, fun _ _ _ _ _ _ a b => a.trans b⟩
        have hle := nc_le (connW_eqv (x := x) (y := y) hm) E (P := fun _ => true) (P' := fun _ => true) (fun _ _ _ _ _ _ => rfl) id (fun u hu _ => ⟨hu, rfl⟩) (fun u v hu _ _ _ h => sub u v hu h)
        rw [← Sm.ct_nc hm] at hle
        omega
      · obtain ⟨a, b⟩ := lost_cut hv hy hx hoy hox (fun e => hxy e.symm) (fun h => c2 (connW_swap h))
        exact ⟨onOrb_symm hm.inj hy a, onOrb_symm hm.inj (hm.lt hy) b⟩
    · exact lost_cut hv hx hy hox hoy hxy c1
  · rintro ⟨h1, h2⟩
    obtain ⟨hv', hno⟩ := cut_sph hv hx hy hox hoy hxy h1 h2
    obtain ⟨hs', hsp'⟩ := vldB_iff.1 hv'
    have hm' := hs'.mates2
    obtain ⟨_, hpy⟩ := cross_shape hv hx hy hox hoy hxy
    have sub : ∀ a b, ConnW M x y a b → Conn (crossL M x y) a b := fun a b h => h (fun b => Conn (crossL M x y) a b) (Conn.refl _ _) fun c d hq1 ⟨s, h4, g1, g2, g3, g4, e⟩ => by
      refine hq1.step ⟨s, h4, ?_⟩
      have n3 : 4 * c + s ≠ mt M x := fun e => g2 (by rw [e, hp])
      have n4 : 4 * c + s ≠ mt M y := fun e => g4 (by rw [e, hq])
      have e5 : mt (crossL M x y) (4 * c + s) = mt M (4 * c + s) := by
        rw [cross_mt hm hs.len hx hy hxy hpy, swp_other _ n3 n4, swp_other _ g1 g3]
      show mt (crossL M x y) (4 * c + s) / 4 = d
      rw [e5, e]
    have E' : Eqv (Conn (crossL M x y)) S.length := ⟨fun _ _ => Conn.refl _ _, fun _ _ ha _ h => hm'.ok.conn_symm ha h, fun _ _ _ _ _ _ a b => a.trans b⟩
    have hle := nc_le E' (connW_eqv (x := x) (y := y) hm) (P := fun _ => true) (P' := fun _ => true) (fun _ _ _ _ _ _ => rfl) id (fun u hu _ => ⟨hu, rfl⟩) (fun u v hu _ _ _ h => sub u v h)
    rw [← Sm.ct_nc hm'] at hle
    -- one part more
    have E : Eqv (Conn M) S.length := ⟨fun _ _ => Conn.refl _ _, fun _ _ ha _ h => hm.ok.conn_symm ha h, fun _ _ _ _ _ _ a b => a.trans b⟩
    have t1 := (sph_total hm).1 hsp
    have t2 := (sph_total hm').1 hsp'
    have hne := face_ne hv hx
    have n4 : mt M x ≠ mt M y := fun e => hxy (by rw [← hp, e, hq])
    have s1 := split_count hm.inj hx hy hxy h1 (fun _ => true) (fun _ _ => rfl) rfl rfl
    have f1 : ¬ OnOrb (fc M) (mt M x) x := fun h => hne (onOrb_symm hm.inj (hm.lt hx) h)
    have f2 : ¬ OnOrb (fc M) (mt M x) y := fun h => f1 (onOrb_trans h (onOrb_symm hm.inj hx h1))
    have h3 := (orb_far hm.inj (hm.lt hx) f1 f2 (mt M y)).1 h2
    have s2 := split_count (swp_inj hm.inj hx hy) (hm.lt hx) (hm.lt hy) n4 h3 (fun _ => true) (fun _ _ => rfl) rfl rfl
    have hF := cross_FT hv hx hy hox hoy hxy
    have hF0 : FT M S.length = cnt (fun z => leastB (fc M) (perOf (fc M) (4 * S.length)) z && true) (4 * S.length) := by
      unfold FT; exact cnt_congr fun _ _ => by rw [Bool.and_true]
    omega
end
end Go.Proofs.Ytmjoijfafachhaa
