/- Plain: crossing cuts, in whatever order, leads to one diagram. Plain: two cuts crossed in either order have a common end; so the last diagram is one. -/
import Derived.WalkKit
import Derived.WalkSpells
import Derived.WalkLawsBesides
import Derived.Deep.AppendSrc
import Derived.Deep.LoopGhost
import Derived.Deep.QuietTactic
import Derived.Deep.RegionWith
import Derived.Deep.DeepMust
import Derived.Deep.DeepFit
import Derived.BigQuiet
import Derived.Lib.Hide
import Derived.Outline
import Derived.Test.YtmjoijfafachhaaGreatDoorProg
import Derived.Test.YtmjoijfafachhaaGreatDoorZuAa
import Derived.Test.YtmjoijfafachhaaGreatDoorZuAb
import Derived.Test.YtmjoijfafachhaaGreatDoorZuAc
import Derived.Test.YtmjoijfafachhaaGreatDoorZuAd
import Derived.Test.YtmjoijfafachhaaGreatDoorZuAe
import Derived.Test.YtmjoijfafachhaaGreatDoorZuAf
import Derived.Test.YtmjoijfafachhaaGreatDoorZuAg
import Derived.Test.YtmjoijfafachhaaGreatDoorZuAh
namespace Go.Proofs.YtmjoijfafachhaaGreatDoor
open Go Go.RowKit
/-- Two edges with the same faces at both sides. -/
def Sim (M : List Int) (u v : Nat) : Prop := OnOrb (fc M) u v ∧ OnOrb (fc M) (mt M u) (mt M v)
/-- An outgoing half-edge. -/
def Og (S : List Int) (x : Nat) : Prop := x < 4 * S.length ∧ outB S x = true
structure Cut (S M : List Int) (x y : Nat) : Prop where
  ox : Og S x
  oy : Og S y
  ne : x ≠ y
  sim : Sim M x y
section
variable {S M : List Int} {L : Int} (hv : vldB S M L = true)
include hv
theorem og_mt {x : Nat} (hx : Og S x) : mt M x < 4 * S.length ∧ outB S (mt M x) = false ∧ mt M (mt M x) = x ∧ mt M x ≠ x := by
  obtain ⟨hs, _⟩ := vldB_iff.1 hv
  have hm := hs.mates2
  exact ⟨hm.lt hx.1, by rw [hs.out_mt hx.1, hx.2]; rfl, hm.inv hx.1, hm.ne x hx.1⟩
theorem sim_symm {u v : Nat} (hu : u < 4 * S.length) (h : Sim M u v) : Sim M v u := by
  obtain ⟨hs, _⟩ := vldB_iff.1 hv
  have hm := hs.mates2
  exact ⟨onOrb_symm hm.inj hu h.1, onOrb_symm hm.inj (hm.lt hu) h.2⟩
omit hv in
theorem sim_trans {u v w : Nat} (h : Sim M u v) (k : Sim M v w) : Sim M u w := ⟨onOrb_trans h.1 k.1, onOrb_trans h.2 k.2⟩
theorem conn_sy {c d : Nat} (hc : c < S.length) (h : Conn M c d) : Conn M d c := by
  obtain ⟨hs, _⟩ := vldB_iff.1 hv
  exact hs.mates2.ok.conn_symm hc h
omit hv in
theorem conn_mt (z : Nat) : Conn M (z / 4) (mt M z / 4) := Conn.adj Mates.adj
theorem face_conn {a b : Nat} (_ : a < 4 * S.length) (h : OnOrb (fc M) a b) : Conn M (a / 4) (b / 4) := by
  have _ := hv
  obtain ⟨k, rfl⟩ := h
  induction k with
  | zero => exact Conn.refl _ _
  | succ k ih =>
    rw [iter_succ]
    refine ih.trans ?_
    rw [show fc M (iter (fc M) k a) = tn (mt M (iter (fc M) k a)) (-1) from rfl, tn_div]
    exact conn_mt _
theorem Cut.symm {x y : Nat} (h : Cut S M x y) : Cut S M y x := ⟨h.oy, h.ox, fun e => h.ne e.symm, sim_symm hv h.ox.1 h.sim⟩
theorem Cut.conn {x y : Nat} (h : Cut S M x y) : Conn M (x / 4) (y / 4) := face_conn hv h.ox.1 h.sim.1
end
section
variable {S M : List Int} {L : Int} (hv : vldB S M L = true) {x y : Nat} (ox : Og S x) (oy : Og S y) (hxy : x ≠ y)
include hv ox oy hxy
theorem mx_ne : mt M x ≠ y := (cross_shape hv ox.1 oy.1 ox.2 oy.2 hxy).2
theorem cr_mt (z : Nat) : mt (crossL M x y) z = swp (swp (mt M) x y) (mt M x) (mt M y) z := by
  obtain ⟨hs, _⟩ := vldB_iff.1 hv
  exact cross_mt hs.mates2 hs.len ox.1 oy.1 hxy (mx_ne hv ox oy hxy) z
/-- The mates of outgoing half-edges. -/
theorem cr_out {z : Nat} (hz : Og S z) : mt (crossL M x y) z = if z = x then mt M y else if z = y then mt M x else mt M z := by
  have h1 := (og_mt hv ox).2.1
  have h2 := (og_mt hv oy).2.1
  rw [cr_mt hv ox oy hxy, swp_other _ (fun e => by rw [← e, hz.2] at h1; cases h1) (fun e => by rw [← e, hz.2] at h2; cases h2)]
  rfl
theorem cr_x : mt (crossL M x y) x = mt M y := by rw [cr_out hv ox oy hxy ox, if_pos rfl]
theorem cr_y : mt (crossL M x y) y = mt M x := by rw [cr_out hv ox oy hxy oy, if_neg (fun e => hxy e.symm), if_pos rfl]
theorem cr_mx : mt (crossL M x y) (mt M x) = y := by
  have a := og_mt hv ox
  have b := og_mt hv oy
  have n : mt M y ≠ x := fun e => mx_ne hv ox oy hxy (by rw [← e, b.2.2.1])
  rw [cr_mt hv ox oy hxy, swp_left, swp_other _ n b.2.2.2, b.2.2.1]
theorem cr_my : mt (crossL M x y) (mt M y) = x := by
  have a := og_mt hv ox
  have b := og_mt hv oy
  rw [cr_mt hv ox oy hxy, swp_right, swp_other _ a.2.2.2 (mx_ne hv ox oy hxy), a.2.2.1]
theorem cr_else {z : Nat} (h1 : z ≠ x) (h2 : z ≠ y) (h3 : z ≠ mt M x) (h4 : z ≠ mt M y) : mt (crossL M x y) z = mt M z := by
  rw [cr_mt hv ox oy hxy, swp_other _ h3 h4, swp_other _ h1 h2]
end
/-- Two diagrams whose outgoing half-edges have the same mates. -/
theorem mates_ext {S M N : List Int} {L : Int} (hM : Shape S M L) (hN : Shape S N L) (h : ∀ z, Og S z → mt M z = mt N z) : M = N := by
  have hm := hM.mates2
  have hn := hN.mates2
  refine ext_nth (by rw [hM.len, hN.len]) fun z hz => ?_
  have hz : z < 4 * S.length := by rw [← hM.len]; exact hz
  have key : mt M z = mt N z := by
    cases ho : outB S z
    · have o1 : outB S (mt M z) = true := by rw [hM.out_mt hz, ho]; rfl
      have e1 := h (mt M z) ⟨hm.lt hz, o1⟩
      rw [hm.inv hz] at e1
      have e2 := hn.inv (hm.lt hz)
      rw [← e1] at e2
      exact e2.symm
    · exact h z ⟨hz, ho⟩
  have r1 := hM.range z hz
  have r2 := hN.range z hz
  unfold mt at key
  omega
section
variable {S M : List Int} {L : Int} (hv : vldB S M L = true) {x y : Nat} (hc : Cut S M x y)
include hv hc
theorem cut_valid : vldB S (crossL M x y) L = true ∧ ¬ Conn (crossL M x y) (x / 4) (y / 4) := cut_sph hv hc.ox.1 hc.oy.1 hc.ox.2 hc.oy.2 hc.ne hc.sim.1 hc.sim.2
theorem refine_conn {c d : Nat} (hcn : c < S.length) (h : Conn (crossL M x y) c d) : Conn M c d := by
  obtain ⟨hs, _⟩ := vldB_iff.1 hv
  have hv1 := (cut_valid hv hc).1
  have hpy := mx_ne hv hc.ox hc.oy hc.ne
  have t := cross_tie hv1 hc.ox.1 hc.oy.1 hc.ox.2 hc.oy.2 hc.ne hcn h
  rw [cross_cross hs.mates2 hs.len hc.ox.1 hc.oy.1 hc.ne hpy] at t
  have hxy := hc.conn hv
  have hx4 : x / 4 < S.length := by have := hc.ox.1; omega
  have hyx := conn_sy hv hx4 hxy
  have hd : d < S.length := (vldB_iff.1 hv1).1.mates2.ok.conn_lt hcn h
  rcases t with t | ⟨t1, t2⟩
  · exact t
  · have a : Conn M c (x / 4) := by
      rcases t1 with t | t
      · exact t
      · exact t.trans hyx
    rcases t2 with t | t
    · exact a.trans (conn_sy hv hd t)
    · exact (a.trans hxy).trans (conn_sy hv hd t)
/-- What was with x is with x or with y. -/
theorem near {c : Nat} (hcn : c < S.length) (h : Conn M c (x / 4)) : Conn (crossL M x y) c (x / 4) ∨ Conn (crossL M x y) c (y / 4) := by
  rcases cross_tie hv hc.ox.1 hc.oy.1 hc.ox.2 hc.oy.2 hc.ne hcn h with t | ⟨t, _⟩
  · exact .inl t
  · exact t
theorem refine_face {p z : Nat} (hp : p < 4 * S.length) (h : OnOrb (fc (crossL M x y)) p z) : OnOrb (fc M) p z := by
  obtain ⟨hs, _⟩ := vldB_iff.1 hv
  have hm := hs.mates2
  have hm1 := (vldB_iff.1 (cut_valid hv hc).1).1.mates2
  obtain ⟨k, rfl⟩ := h
  induction k with
  | zero => exact onOrb_refl _ _
  | succ k ih =>
    rw [iter_succ]
    refine onOrb_trans ih ?_
    have hw : iter (fc (crossL M x y)) k p < 4 * S.length := iter_lt _ _ hm1.inj.lt k p hp
    generalize iter (fc (crossL M x y)) k p = w at *
    have step : ∀ u, fc M u = tn (mt M u) (-1) := fun u => rfl
    have one : ∀ u, OnOrb (fc M) u (tn (mt M u) (-1)) := fun u => ⟨1, rfl⟩
    show OnOrb (fc M) w (tn (mt (crossL M x y) w) (-1))
    have ax := og_mt hv hc.ox
    have ay := og_mt hv hc.oy
    by_cases g1 : w = x
    · rw [g1, cr_x hv hc.ox hc.oy hc.ne]; exact onOrb_trans hc.sim.1 (one y)
    by_cases g2 : w = y
    · rw [g2, cr_y hv hc.ox hc.oy hc.ne]; exact onOrb_trans (onOrb_symm hm.inj hc.ox.1 hc.sim.1) (one x)
    by_cases g3 : w = mt M x
    · rw [g3, cr_mx hv hc.ox hc.oy hc.ne]
      have := one (mt M y)
      rw [ay.2.2.1] at this
      exact onOrb_trans hc.sim.2 this
    by_cases g4 : w = mt M y
    · rw [g4, cr_my hv hc.ox hc.oy hc.ne]
      have := one (mt M x)
      rw [ax.2.2.1] at this
      exact onOrb_trans (onOrb_symm hm.inj ax.1 hc.sim.2) this
    rw [cr_else hv hc.ox hc.oy hc.ne g1 g2 g3 g4]
    exact one w
/-- A face that falls apart hangs with the four ends. -/
theorem face_tie {p z : Nat} (hp : p < 4 * S.length) (h : OnOrb (fc M) p z) : OnOrb (fc (crossL M x y)) p z ∨
    ((∃ e, (e = x ∨ e = y ∨ e = mt M x ∨ e = mt M y) ∧ OnOrb (fc (crossL M x y)) p e) ∧ ∃ e, (e = x ∨ e = y ∨ e = mt M x ∨ e = mt M y) ∧ OnOrb (fc (crossL M x y)) z e) := by
  obtain ⟨hs, _⟩ := vldB_iff.1 hv
  have hm := hs.mates2
  have hm1 := (vldB_iff.1 (cut_valid hv hc).1).1.mates2
  have ax := og_mt hv hc.ox
  have ay := og_mt hv hc.oy
  have e1 := cr_x hv hc.ox hc.oy hc.ne
  have e2 := cr_y hv hc.ox hc.oy hc.ne
  have e3 := cr_mx hv hc.ox hc.oy hc.ne
  have e4 := cr_my hv hc.ox hc.oy hc.ne
  -- one step
  have st : ∀ w, w < 4 * S.length → OnOrb (fc (crossL M x y)) w (fc M w) ∨ ((w = x ∨ w = y ∨ w = mt M x ∨ w = mt M y) ∧ ∃ e, (e = x ∨ e = y ∨ e = mt M x ∨ e = mt M y) ∧ OnOrb (fc (crossL M x y)) (fc M w) e) := fun w hw => by
    have back : ∀ e, e < 4 * S.length → mt (crossL M x y) e = mt M w → OnOrb (fc (crossL M x y)) (fc M w) e := fun e he h => by
      refine onOrb_symm hm1.inj he ⟨1, ?_⟩
      show tn (mt (crossL M x y) e) (-1) = tn (mt M w) (-1)
      rw [h]
    by_cases g1 : w = x
    · exact .inr ⟨.inl g1, y, .inr (.inl rfl), back y hc.oy.1 (by rw [g1, e2])⟩
    by_cases g2 : w = y
    · exact .inr ⟨.inr (.inl g2), x, .inl rfl, back x hc.ox.1 (by rw [g2, e1])⟩
    by_cases g3 : w = mt M x
    · exact .inr ⟨.inr (.inr (.inl g3)), mt M y, .inr (.inr (.inr rfl)), back _ ay.1 (by rw [g3, e4, ax.2.2.1])⟩
    by_cases g4 : w = mt M y
    · exact .inr ⟨.inr (.inr (.inr g4)), mt M x, .inr (.inr (.inl rfl)), back _ ax.1 (by rw [g4, e3, ay.2.2.1])⟩
    refine .inl ⟨1, ?_⟩
    show tn (mt (crossL M x y) w) (-1) = tn (mt M w) (-1)
    rw [cr_else hv hc.ox hc.oy hc.ne g1 g2 g3 g4]
  obtain ⟨k, rfl⟩ := h
  induction k with
  | zero => exact .inl (onOrb_refl _ _)
  | succ k ih =>
    rw [iter_succ]
    have hw : iter (fc M) k p < 4 * S.length := iter_lt _ _ hm.inj.lt k p hp
    generalize iter (fc M) k p = w at *
    rcases st w hw with s | ⟨s1, e, s2, s3⟩
    · rcases ih with t | ⟨t1, e, t2, t3⟩
      · exact .inl (onOrb_trans t s)
      · exact .inr ⟨t1, e, t2, onOrb_trans (onOrb_symm hm1.inj hw s) t3⟩
    · rcases ih with t | ⟨t1, _⟩
      · exact .inr ⟨⟨w, s1, t⟩, e, s2, s3⟩
      · exact .inr ⟨t1, e, s2, s3⟩
/-- Ends that are still connected are still at one face. -/
theorem face_keep {a b : Nat} (ha : a < 4 * S.length) (hb : b < 4 * S.length) (h : OnOrb (fc M) a b) (hcn : Conn (crossL M x y) (a / 4) (b / 4)) : OnOrb (fc (crossL M x y)) a b := by
  obtain ⟨hs, _⟩ := vldB_iff.1 hv
  have hm := hs.mates2
  obtain ⟨hv1, hno⟩ := cut_valid hv hc
  have hm1 := (vldB_iff.1 hv1).1.mates2
  have ax := og_mt hv hc.ox
  have ay := og_mt hv hc.oy
  have lx := hc.ox.1
  have ly := hc.oy.1
  have k1 : Conn (crossL M x y) (x / 4) (mt M y / 4) := by have := conn_mt (M := crossL M x y) x; rwa [cr_x hv hc.ox hc.oy hc.ne] at this
  have k2 : Conn (crossL M x y) (y / 4) (mt M x / 4) := by have := conn_mt (M := crossL M x y) y; rwa [cr_y hv hc.ox hc.oy hc.ne] at this
  have hfx := face_ne hv lx
  -- which side an end is at
  have side : ∀ w e, w < 4 * S.length → (e = x ∨ e = y ∨ e = mt M x ∨ e = mt M y) → OnOrb (fc (crossL M x y)) w e → (Conn (crossL M x y) (w / 4) (x / 4) ∧ (e = x ∨ e = mt M y)) ∨ (Conn (crossL M x y) (w / 4) (y / 4) ∧ (e = y ∨ e = mt M x)) := fun w e hw he ho => by
    have hce := face_conn hv1 hw ho
    rcases he with rfl | rfl | rfl | rfl
    · exact .inl ⟨hce, .inl rfl⟩
    · exact .inr ⟨hce, .inl rfl⟩
    · exact .inr ⟨hce.trans (conn_sy hv1 (by omega) k2), .inr rfl⟩
    · exact .inl ⟨hce.trans (conn_sy hv1 (by omega) k1), .inr rfl⟩
  rcases face_tie hv hc ha h with t | ⟨⟨e, he, t1⟩, e', he', t2⟩
  · exact t
  have f1 := refine_face hv hc ha t1
  have f2 := refine_face hv hc hb t2
  -- the two ends are at one face of the old diagram
  have fe : OnOrb (fc M) e e' := onOrb_trans (onOrb_symm hm.inj ha f1) (onOrb_trans h f2)
  have same : e = e' := by
    have nx : ¬ OnOrb (fc M) x (mt M y) := fun h => hfx (onOrb_trans h (onOrb_symm hm.inj ax.1 hc.sim.2))
    have ny : ¬ OnOrb (fc M) y (mt M x) := fun h => hfx (onOrb_trans hc.sim.1 h)
    rcases side a e ha he t1 with ⟨s1, g1⟩ | ⟨s1, g1⟩ <;> rcases side b e' hb he' t2 with ⟨s2, g2⟩ | ⟨s2, g2⟩
    · rcases g1 with rfl | rfl <;> rcases g2 with rfl | rfl
      · rfl
      · exact absurd fe nx
      · exact absurd (onOrb_symm hm.inj ay.1 fe) nx
      · rfl
    · exact absurd ((conn_sy hv1 (by omega) s1).trans (hcn.trans s2)) hno
    · exact absurd (conn_sy hv1 (by omega) ((conn_sy hv1 (by omega) s1).trans (hcn.trans s2))) hno
    · rcases g1 with rfl | rfl <;> rcases g2 with rfl | rfl
      · rfl
      · exact absurd fe ny
      · exact absurd (onOrb_symm hm.inj ax.1 fe) ny
      · rfl
  rw [← same] at t2
  exact onOrb_trans t1 (onOrb_symm hm1.inj hb t2)
/-- The mates' faces are those of the old mates. -/
theorem mate_face {u : Nat} (ou : Og S u) : OnOrb (fc M) (mt (crossL M x y) u) (mt M u) := by
  obtain ⟨hs, _⟩ := vldB_iff.1 hv
  have hm := hs.mates2
  rw [cr_out hv hc.ox hc.oy hc.ne ou]
  by_cases g1 : u = x
  · rw [if_pos g1, g1]; exact onOrb_symm hm.inj (og_mt hv hc.ox).1 hc.sim.2
  · rw [if_neg g1]
    by_cases g2 : u = y
    · rw [if_pos g2, g2]; exact hc.sim.2
    · rw [if_neg g2]; exact onOrb_refl _ _
theorem sim_keep {u v : Nat} (ou : Og S u) (ov : Og S v) (h : Sim M u v) (hcn : Conn (crossL M x y) (u / 4) (v / 4)) : Sim (crossL M x y) u v := by
  obtain ⟨hs, _⟩ := vldB_iff.1 hv
  have hm := hs.mates2
  obtain ⟨hv1, _⟩ := cut_valid hv hc
  have lu := ou.1
  have m1 := og_mt hv1 ou
  have m2 := og_mt hv1 ov
  refine ⟨face_keep hv hc ou.1 ov.1 h.1 hcn, face_keep hv hc m1.1 m2.1 ?_ ?_⟩
  · exact onOrb_trans (mate_face hv hc ou) (onOrb_trans h.2 (onOrb_symm hm.inj m2.1 (mate_face hv hc ov)))
  · exact (conn_sy hv1 (by omega) (conn_mt u)).trans (hcn.trans (conn_mt v))
theorem sim_ref {u v : Nat} (ou : Og S u) (ov : Og S v) (h : Sim (crossL M x y) u v) : Sim M u v := by
  obtain ⟨hs, _⟩ := vldB_iff.1 hv
  have hm := hs.mates2
  obtain ⟨hv1, _⟩ := cut_valid hv hc
  have m1 := og_mt hv1 ou
  refine ⟨refine_face hv hc ou.1 h.1, ?_⟩
  exact onOrb_trans (onOrb_symm hm.inj m1.1 (mate_face hv hc ou)) (onOrb_trans (refine_face hv hc m1.1 h.2) (mate_face hv hc ov))
theorem cut_keep {u v : Nat} (ou : Og S u) (ov : Og S v) (hne : u ≠ v) (h : Sim M u v) (hcn : Conn (crossL M x y) (u / 4) (v / 4)) : Cut S (crossL M x y) u v := ⟨ou, ov, hne, sim_keep hv hc ou ov h hcn⟩
/-- What is connected stays so, or hangs with x or y. -/
theorem tieU {c d : Nat} (hcn : c < S.length) (h : Conn M c d) : Conn (crossL M x y) c d ∨ ((Conn (crossL M x y) c (x / 4) ∨ Conn (crossL M x y) c (y / 4)) ∧ (Conn (crossL M x y) d (x / 4) ∨ Conn (crossL M x y) d (y / 4))) := cross_tie hv hc.ox.1 hc.oy.1 hc.ox.2 hc.oy.2 hc.ne hcn h
end
theorem join {S M : List Int} {L : Int} (hv : vldB S M L = true) {u v : Nat} (ou : Og S u) (ov : Og S v) (h : ¬ Conn M (u / 4) (v / 4)) : Conn (crossL M u v) (u / 4) (v / 4) := (join_conn hv ou.1 ov.1 ou.2 ov.2 h).1
theorem cross_comm {S M : List Int} {L : Int} (hv : vldB S M L = true) {x y : Nat} (ox : Og S x) (oy : Og S y) (hne : x ≠ y) : crossL M x y = crossL M y x := by
  refine mates_ext (S := S) (L := L) (cross_shape hv ox.1 oy.1 ox.2 oy.2 hne).1 (cross_shape hv oy.1 ox.1 oy.2 ox.2 (fun e => hne e.symm)).1 fun z hz => ?_
  rw [cr_out hv ox oy hne hz, cr_out hv oy ox (fun e => hne e.symm) hz]
  by_cases g1 : z = x
  · rw [if_pos g1, if_neg (fun e => hne (g1.symm.trans e)), if_pos g1]
  · rw [if_neg g1, if_neg g1]
end Go.Proofs.YtmjoijfafachhaaGreatDoor

namespace Go.Proofs.YtmjoijfafachhaaGreatDoor
open Go Go.RowKit
/-- Cuts crossed one after the other. -/
inductive Steps (S : List Int) : List Int → List Int → Prop
  | refl (M : List Int) : Steps S M M
  | step {M N : List Int} {x y : Nat} (hc : Cut S M x y) (h : Steps S (crossL M x y) N) : Steps S M N
theorem Steps.one {S M : List Int} {x y : Nat} (hc : Cut S M x y) : Steps S M (crossL M x y) := .step hc (.refl _)
theorem Steps.trans {S M N K : List Int} (h : Steps S M N) (k : Steps S N K) : Steps S M K := by
  induction h with
  | refl _ => exact k
  | step hc _ ih => exact .step hc (ih k)
theorem Steps.valid {S M N : List Int} {L : Int} (h : Steps S M N) (hv : vldB S M L = true) : vldB S N L = true := by
  induction h with
  | refl _ => exact hv
  | step hc _ ih => exact ih (cut_valid hv hc).1
def NoCut (S M : List Int) : Prop := ∀ x y, ¬ Cut S M x y
/-- A common end. -/
def Meet (S M N : List Int) : Prop := ∃ K, Steps S M K ∧ Steps S N K
theorem Meet.symm {S M N : List Int} (h : Meet S M N) : Meet S N M := by
  obtain ⟨K, a, b⟩ := h
  exact ⟨K, b, a⟩
section
variable {S M : List Int} {L : Int} (hv : vldB S M L = true)
include hv
/-- What a crossing of two edges that are not connected joins. -/
theorem join_no {K : List Int} {u v : Nat} (ou : Og S u) (ov : Og S v) (e : crossL M u v = K) (h : ¬ Conn K (u / 4) (v / 4)) : Conn M (u / 4) (v / 4) :=
  Classical.byContradiction fun hn => h (by rw [← e]; exact join hv ou ov hn)
theorem shape_cr {u v : Nat} (ou : Og S u) (ov : Og S v) (hne : u ≠ v) : Shape S (crossL M u v) L := (cross_shape hv ou.1 ov.1 ou.2 ov.2 hne).1
/-- Two cuts that share an edge. -/
theorem meet_share {x y v : Nat} (h1 : Cut S M x y) (h2 : Cut S M x v) (hyv : y ≠ v) : Meet S (crossL M x y) (crossL M x v) := by
  obtain ⟨hv1, n1⟩ := cut_valid hv h1
  obtain ⟨hv2, n2⟩ := cut_valid hv h2
  have lx := h1.ox.1
  have ly := h1.oy.1
  have lv := h2.oy.1
  have svx : Sim M v x := sim_symm hv lx h2.sim
  have svy : Sim M v y := sim_trans svx h1.sim
  have syv : Sim M y v := sim_symm hv lv svy
  rcases near hv h1 (by omega) (conn_sy hv (by omega) (h2.conn hv)) with c | c
  · -- v is with x
    have k : Cut S (crossL M x y) x v := (cut_keep hv h1 h2.oy h1.ox (fun e => h2.ne e.symm) svx c).symm hv1
    obtain ⟨hv3, n3⟩ := cut_valid hv1 k
    have e : crossL (crossL M x v) y v = crossL (crossL M x y) x v := by
      refine mates_ext (shape_cr hv2 h1.oy h2.oy hyv) (shape_cr hv1 h1.ox h2.oy h2.ne) fun z hz => ?_
      rw [cr_out hv2 h1.oy h2.oy hyv hz, cr_out hv1 h1.ox h2.oy h2.ne hz, cr_out hv h1.ox h2.oy h2.ne hz, cr_out hv h1.ox h1.oy h1.ne hz,
        cr_out hv h1.ox h2.oy h2.ne h2.oy, cr_out hv h1.ox h2.oy h2.ne h1.oy, cr_out hv h1.ox h1.oy h1.ne h2.oy, cr_out hv h1.ox h1.oy h1.ne h1.ox]
      have a := h1.ne
      have b := h2.ne
      grind
    have c2 : Conn (crossL M x v) (y / 4) (v / 4) := join_no hv2 h1.oy h2.oy e fun h => n1 (by
      have g := refine_conn hv1 k (by omega) h
      exact conn_sy hv1 (by omega) (g.trans c))
    exact ⟨_, .one k, by rw [← e]; exact .one (cut_keep hv h2 h1.oy h2.oy hyv syv c2)⟩
  · -- v is with y
    have k : Cut S (crossL M x y) y v := (cut_keep hv h1 h2.oy h1.oy (fun e => hyv e.symm) svy c).symm hv1
    obtain ⟨hv3, n3⟩ := cut_valid hv1 k
    have e : crossL (crossL M x v) x y = crossL (crossL M x y) y v := by
      refine mates_ext (shape_cr hv2 h1.ox h1.oy h1.ne) (shape_cr hv1 h1.oy h2.oy hyv) fun z hz => ?_
      rw [cr_out hv2 h1.ox h1.oy h1.ne hz, cr_out hv1 h1.oy h2.oy hyv hz, cr_out hv h1.ox h2.oy h2.ne hz, cr_out hv h1.ox h1.oy h1.ne hz,
        cr_out hv h1.ox h2.oy h2.ne h1.oy, cr_out hv h1.ox h2.oy h2.ne h1.ox, cr_out hv h1.ox h1.oy h1.ne h2.oy, cr_out hv h1.ox h1.oy h1.ne h1.oy]
      have a := h1.ne
      have b := h2.ne
      grind
    have c2 : Conn (crossL M x v) (x / 4) (y / 4) := join_no hv2 h1.ox h1.oy e fun h => n1 (refine_conn hv1 k (by omega) h)
    exact ⟨_, .one k, by rw [← e]; exact .one (cut_keep hv h2 h1.ox h1.oy h1.ne h1.sim c2)⟩
section
variable {x y u v : Nat} (h1 : Cut S M x y) (h2 : Cut S M u v) (hxu : x ≠ u) (hxv : x ≠ v) (hyu : y ≠ u) (hyv : y ≠ v)
include h1 h2 hxu hxv hyu hyv
theorem comm_far : crossL (crossL M u v) x y = crossL (crossL M x y) u v := by
  obtain ⟨hv1, _⟩ := cut_valid hv h1
  obtain ⟨hv2, _⟩ := cut_valid hv h2
  refine mates_ext (shape_cr hv2 h1.ox h1.oy h1.ne) (shape_cr hv1 h2.ox h2.oy h2.ne) fun z hz => ?_
  rw [cr_out hv2 h1.ox h1.oy h1.ne hz, cr_out hv1 h2.ox h2.oy h2.ne hz, cr_out hv h2.ox h2.oy h2.ne hz, cr_out hv h1.ox h1.oy h1.ne hz,
    cr_out hv h2.ox h2.oy h2.ne h1.oy, cr_out hv h2.ox h2.oy h2.ne h1.ox, cr_out hv h1.ox h1.oy h1.ne h2.ox, cr_out hv h1.ox h1.oy h1.ne h2.oy]
  have a := h1.ne
  have b := h2.ne
  grind
/-- u with x, v with y: u and x are a cut. -/
theorem side_cut (hux : Conn (crossL M x y) (u / 4) (x / 4)) (hvy : Conn (crossL M x y) (v / 4) (y / 4)) : Cut S (crossL M x y) u x := by
  obtain ⟨hv1, n1⟩ := cut_valid hv h1
  obtain ⟨hv2, n2⟩ := cut_valid hv h2
  have lx := h1.ox.1
  have ly := h1.oy.1
  have lu := h2.ox.1
  have lv := h2.oy.1
  have hm := (vldB_iff.1 hv).1.mates2
  have hm1 := (vldB_iff.1 hv1).1.mates2
  have ax := og_mt hv h1.ox
  have ay := og_mt hv h1.oy
  have au := og_mt hv h2.ox
  have av := og_mt hv h2.oy
  have eu : mt (crossL M x y) u = mt M u := by rw [cr_out hv h1.ox h1.oy h1.ne h2.ox, if_neg (fun e => hxu e.symm), if_neg (fun e => hyu e.symm)]
  have _ := And.intro hxv hyv
  have hno : ¬ ConnW (crossL M x y) u x (u / 4) (mt (crossL M x y) u / 4) := fun hw => by
    have key := hw (fun c => c < S.length ∧ Conn (crossL M x y) (x / 4) c ∧ Conn (crossL M u v) (u / 4) c) ⟨by omega, conn_sy hv1 (by omega) hux, Conn.refl _ _⟩ fun a b ⟨ha, q1, q2⟩ hab => by
      obtain ⟨s, s4, g1, g2, g3, g4, rfl⟩ := hab
      have hz : 4 * a + s < 4 * S.length := by omega
      have hza : (4 * a + s) / 4 = a := by omega
      have hzc := conn_mt (M := crossL M x y) (4 * a + s)
      rw [hza] at hzc
      have hb : Conn (crossL M x y) (x / 4) (mt (crossL M x y) (4 * a + s) / 4) := q1.trans hzc
      have hlt := hm1.lt hz
      generalize hzz : 4 * a + s = z at *
      -- the edge is not touched by the first crossing
      have z2 : z ≠ y := fun e => n1 (by rw [← hza, e] at q1; exact q1)
      have z3 : z ≠ mt M x := fun e => n1 (by rw [e, cr_mx hv h1.ox h1.oy h1.ne] at hb; exact hb)
      have z4 : z ≠ mt M y := fun e => g4 (by rw [e]; exact cr_my hv h1.ox h1.oy h1.ne)
      have e1 := cr_else hv h1.ox h1.oy h1.ne g3 z2 z3 z4
      rw [e1] at hb hlt g2 g4 ⊢
      -- nor by the second one
      have noV : ¬ Conn (crossL M x y) (x / 4) (v / 4) := fun h => n1 (h.trans hvy)
      have y3 : z ≠ mt M u := fun e => g2 (by rw [e]; exact au.2.2.1)
      have y2 : z ≠ v := fun e => noV (by rw [← hza, e] at q1; exact q1)
      have y4 : z ≠ mt M v := fun e => noV (by rw [e, av.2.2.1] at hb; exact hb)
      have e2 := cr_else hv h2.ox h2.oy h2.ne g1 y2 y3 y4
      refine ⟨by omega, hb, q2.trans ?_⟩
      have := conn_mt (M := crossL M u v) z
      rw [e2, hza] at this
      exact this
    rw [eu] at key
    refine n2 (key.2.2.trans ?_)
    have := conn_mt (M := crossL M u v) v
    rw [cr_y hv h2.ox h2.oy h2.ne] at this
    exact conn_sy hv2 (by omega) this
  obtain ⟨f1, f2⟩ := lost_cut hv1 lu lx h2.ox.2 h1.ox.2 (fun e => hxu e.symm) hno
  exact ⟨h2.ox, h1.ox, fun e => hxu e.symm, f1, f2⟩
theorem meet_side (hux : Conn (crossL M x y) (u / 4) (x / 4)) (hvy : Conn (crossL M x y) (v / 4) (y / 4)) : Meet S (crossL M x y) (crossL M u v) := by
  obtain ⟨hv1, n1⟩ := cut_valid hv h1
  obtain ⟨hv2, n2⟩ := cut_valid hv h2
  have lx := h1.ox.1
  have ly := h1.oy.1
  have lu := h2.ox.1
  have lv := h2.oy.1
  have hne1 := h1.ne
  have hne2 := h2.ne
  have cxy := cross_comm hv h1.ox h1.oy h1.ne
  have cuv := cross_comm hv h2.ox h2.oy h2.ne
  have k1 := side_cut hv h1 h2 hxu hxv hyu hyv hux hvy
  have k2 : Cut S (crossL M x y) v y := by
    have := side_cut hv (h1.symm hv) (h2.symm hv) hyv hyu hxv hxu (by rw [← cxy]; exact hvy) (by rw [← cxy]; exact hux)
    rwa [← cxy] at this
  have sux : Sim M u x := sim_ref hv h1 h2.ox h1.ox k1.sim
  have svy : Sim M v y := sim_ref hv h1 h2.oy h1.oy k2.sim
  have n1uv : ¬ Conn (crossL M x y) (u / 4) (v / 4) := fun h => n1 ((conn_sy hv1 (by omega) hux).trans (h.trans hvy))
  -- the way from the first
  obtain ⟨hv4, n4⟩ := cut_valid hv1 k1
  have c4 : Conn (crossL (crossL M x y) u x) (v / 4) (y / 4) := by
    rcases tieU hv1 k1 (by omega) hvy with t | ⟨t, _⟩
    · exact t
    · exfalso
      rcases t with t | t
      · exact n1uv (conn_sy hv1 (by omega) (refine_conn hv1 k1 (by omega) t))
      · exact n1uv (hux.trans (conn_sy hv1 (by omega) (refine_conn hv1 k1 (by omega) t)))
  have k4 : Cut S (crossL (crossL M x y) u x) v y := cut_keep hv1 k1 h2.oy h1.oy (fun e => hyv e.symm) k2.sim c4
  obtain ⟨hv3, n3⟩ := cut_valid hv4 k4
  obtain ⟨K3, hK3⟩ : ∃ K3, K3 = crossL (crossL (crossL M x y) u x) v y := ⟨_, rfl⟩
  rw [← hK3] at hv3 n3
  have d1 : ∀ c d, c < S.length → Conn K3 c d → Conn (crossL (crossL M x y) u x) c d := fun c d hcn h => refine_conn hv4 k4 hcn (by rw [← hK3]; exact h)
  have d2 : ∀ c d, c < S.length → Conn K3 c d → Conn (crossL M x y) c d := fun c d hcn h => refine_conn hv1 k1 hcn (d1 c d hcn h)
  have m3 : ∀ z, Og S z → mt K3 z = if z = x then mt M u else if z = y then mt M v else if z = u then mt M y else if z = v then mt M x else mt M z := fun z hz => by
    rw [hK3, cr_out hv4 h2.oy h1.oy (fun e => hyv e.symm) hz, cr_out hv1 h2.ox h1.ox (fun e => hxu e.symm) hz, cr_out hv1 h2.ox h1.ox (fun e => hxu e.symm) h1.oy, cr_out hv1 h2.ox h1.ox (fun e => hxu e.symm) h2.oy,
      cr_out hv h1.ox h1.oy h1.ne hz, cr_out hv h1.ox h1.oy h1.ne h1.ox, cr_out hv h1.ox h1.oy h1.ne h1.oy, cr_out hv h1.ox h1.oy h1.ne h2.ox, cr_out hv h1.ox h1.oy h1.ne h2.oy]
    grind
  have sh3 : Shape S K3 L := (vldB_iff.1 hv3).1
  -- in the second, x and y are apart
  have nxy2 : ¬ Conn (crossL M u v) (x / 4) (y / 4) := fun h => by
    have k := cut_keep hv h2 h1.ox h1.oy h1.ne h1.sim h
    have e := comm_far hv h1 h2 hxu hxv hyu hyv
    have j := join hv1 h2.ox h2.oy n1uv
    rw [← e] at j
    exact n2 (refine_conn hv2 k (by omega) j)
  have m2 : ∀ z, Og S z → mt (crossL M u v) z = if z = u then mt M v else if z = v then mt M u else mt M z := fun z hz => cr_out hv h2.ox h2.oy h2.ne hz
  -- x is with v there
  have e5 : ∀ N, Shape S N L → (∀ z, Og S z → mt N z = if z = x then mt M u else if z = v then mt M x else if z = u then mt M v else mt M z) → ∀ hvN : vldB S N L = true, crossL N y u = K3 := fun N hN hmN hvN => by
    refine mates_ext (shape_cr hvN h1.oy h2.ox hyu) sh3 fun z hz => ?_
    rw [cr_out hvN h1.oy h2.ox hyu hz, m3 z hz, hmN z hz, hmN u h2.ox, hmN y h1.oy]
    grind
  have mN : ∀ z, Og S z → mt (crossL (crossL M u v) x v) z = if z = x then mt M u else if z = v then mt M x else if z = u then mt M v else mt M z := fun z hz => by
    rw [cr_out hv2 h1.ox h2.oy hxv hz, m2 z hz, m2 v h2.oy, m2 x h1.ox]
    grind
  have n3s : ∀ a b, a < S.length → b < S.length → (Conn K3 a b → False) → Conn K3 b a → False := fun a b ha hb h k => h (conn_sy hv3 hb k)
  have p1 : ¬ Conn K3 (x / 4) (v / 4) := fun h => n1 ((d2 _ _ (by omega) h).trans hvy)
  have p2 : ¬ Conn K3 (x / 4) (y / 4) := fun h => n1 (d2 _ _ (by omega) h)
  have p3 : ¬ Conn K3 (x / 4) (u / 4) := fun h => n4 (conn_sy hv4 (by omega) (d1 _ _ (by omega) h))
  have c5 : Conn (crossL M u v) (x / 4) (v / 4) := Classical.byContradiction fun hn => by
    obtain ⟨hvK, _, _⟩ := join_sph hv2 h1.ox.1 h2.oy.1 h1.ox.2 h2.oy.2 hn
    have j := join hv2 h1.ox h2.oy hn
    have e := e5 _ (vldB_iff.1 hvK).1 mN hvK
    have t := cross_tie hvK h1.oy.1 h2.ox.1 h1.oy.2 h2.ox.2 hyu (c := x / 4) (d := v / 4) (by omega) j
    rw [e] at t
    rcases t with t | ⟨t | t, _⟩
    · exact p1 t
    · exact p2 t
    · exact p3 t
  have sxv : Sim M x v := sim_trans (sim_symm hv (by omega) sux) h2.sim
  have k5 : Cut S (crossL M u v) x v := cut_keep hv h2 h1.ox h2.oy hxv sxv c5
  obtain ⟨hv5, n5⟩ := cut_valid hv2 k5
  have e6 := e5 _ (vldB_iff.1 hv5).1 mN hv5
  -- y with u, too
  have c6 : Conn (crossL (crossL M u v) x v) (y / 4) (u / 4) := join_no hv5 h1.oy h2.ox e6 fun h => n1 (by
    have := d2 _ _ (by omega) h
    exact conn_sy hv1 (by omega) (this.trans hux))
  have syu : Sim M y u := sim_trans (sim_symm hv (by omega) svy) (sim_symm hv (by omega) h2.sim)
  have c7 := refine_conn hv2 k5 (by omega) c6
  have s7 := sim_keep hv h2 h1.oy h2.ox syu c7
  have k6 : Cut S (crossL (crossL M u v) x v) y u := cut_keep hv2 k5 h1.oy h2.ox hyu s7 c6
  exact ⟨K3, .step k1 (by rw [hK3]; exact .one k4), .step k5 (by rw [← e6]; exact .one k6)⟩
theorem meet_far : Meet S (crossL M x y) (crossL M u v) := by
  obtain ⟨hv1, n1⟩ := cut_valid hv h1
  obtain ⟨hv2, n2⟩ := cut_valid hv h2
  have lx := h1.ox.1
  have ly := h1.oy.1
  have lu := h2.ox.1
  have lv := h2.oy.1
  by_cases h : Conn (crossL M x y) (u / 4) (v / 4)
  · have k := cut_keep hv h1 h2.ox h2.oy h2.ne h2.sim h
    have e := comm_far hv h1 h2 hxu hxv hyu hyv
    have c : Conn (crossL M u v) (x / 4) (y / 4) := join_no hv2 h1.ox h1.oy e fun g => n1 (refine_conn hv1 k (by omega) g)
    exact ⟨_, .one k, by rw [← e]; exact .one (cut_keep hv h2 h1.ox h1.oy h1.ne h1.sim c)⟩
  · rcases tieU hv h1 (by omega) (h2.conn hv) with t | ⟨t1, t2⟩
    · exact absurd t h
    rcases t1 with t1 | t1 <;> rcases t2 with t2 | t2
    · exact absurd (t1.trans (conn_sy hv1 (by omega) t2)) h
    · exact meet_side hv h1 h2 hxu hxv hyu hyv t1 t2
    · have e := cross_comm hv h1.ox h1.oy h1.ne
      rw [e] at t1 t2 ⊢
      exact meet_side hv (h1.symm hv) h2 hyu hyv hxu hxv t1 t2
    · exact absurd (t1.trans (conn_sy hv1 (by omega) t2)) h
end
theorem meet_all {x y u v : Nat} (h1 : Cut S M x y) (h2 : Cut S M u v) : Meet S (crossL M x y) (crossL M u v) := by
  have c1 := cross_comm hv h1.ox h1.oy h1.ne
  have c2 := cross_comm hv h2.ox h2.oy h2.ne
  by_cases a : x = u
  · subst a
    by_cases b : y = v
    · subst b; exact ⟨_, .refl _, .refl _⟩
    · exact meet_share hv h1 h2 b
  by_cases b : x = v
  · subst b
    rw [c2]
    by_cases d : y = u
    · subst d; exact ⟨_, .refl _, .refl _⟩
    · exact meet_share hv h1 (h2.symm hv) d
  by_cases d : y = u
  · subst d
    rw [c1]
    exact meet_share hv (h1.symm hv) h2 b
  by_cases e : y = v
  · subst e
    rw [c1, c2]
    exact meet_share hv (h1.symm hv) (h2.symm hv) a
  exact meet_far hv h1 h2 a b d e
end
theorem countP_ltU {α : Type} {p q : α → Bool} : ∀ {l : List α}, (∀ a, a ∈ l → p a = true → q a = true) → (∃ a, a ∈ l ∧ q a = true ∧ p a = false) → l.countP p < l.countP q
  | [], _, h => by obtain ⟨a, ha, _⟩ := h; simp at ha
  | a :: l, hpq, h => by
    have hle : l.countP p ≤ l.countP q := List.countP_mono_left fun b hb => hpq b (List.mem_cons_of_mem _ hb)
    have h1 := hpq a List.mem_cons_self
    rw [List.countP_cons, List.countP_cons]
    by_cases g : q a = true ∧ p a = false
    · rw [if_pos g.1, if_neg (by rw [g.2]; decide)]; omega
    · have ih : l.countP p < l.countP q := countP_ltU (fun b hb => hpq b (List.mem_cons_of_mem _ hb)) (by
        obtain ⟨b, hb, k⟩ := h
        rcases List.mem_cons.1 hb with rfl | hb
        · exact absurd k g
        · exact ⟨b, hb, k⟩)
      cases hp : p a
      · rw [if_neg (by decide)]; split <;> omega
      · rw [if_pos rfl, if_pos (h1 hp)]; omega
/-- How many crossings are connected. -/
noncomputable def mu (M : List Int) (n : Nat) : Nat := (List.range (n * n)).countP fun p => okC (Conn M (p / n) (p % n))
theorem dm {a b n : Nat} (h : b < n) : (a * n + b) / n = a ∧ (a * n + b) % n = b := by
  rw [Nat.add_comm, Nat.add_mul_div_right _ _ (by omega), Nat.div_eq_of_lt h, Nat.zero_add, Nat.add_mul_mod_self_right, Nat.mod_eq_of_lt h]
  exact ⟨rfl, rfl⟩
theorem mu_lt {S M : List Int} {L : Int} (hv : vldB S M L = true) {x y : Nat} (hc : Cut S M x y) : mu (crossL M x y) S.length < mu M S.length := by
  have lx := hc.ox.1
  have ly := hc.oy.1
  have hn : 0 < S.length := by omega
  refine countP_ltU (fun p hp h => ?_) ⟨x / 4 * S.length + y / 4, ?_, ?_, ?_⟩
  · have hp := List.mem_range.1 hp
    have hlt : p / S.length < S.length := (Nat.div_lt_iff_lt_mul hn).2 hp
    exact okC_iff.2 (refine_conn hv hc hlt (okC_iff.1 h))
  · rw [List.mem_range]
    have h1 : x / 4 + 1 ≤ S.length := by omega
    have h2 := Nat.mul_le_mul_right S.length h1
    rw [Nat.add_mul, Nat.one_mul] at h2
    omega
  · rw [(dm (a := x / 4) (b := y / 4) (n := S.length) (by omega)).1, (dm (a := x / 4) (b := y / 4) (n := S.length) (by omega)).2]
    exact okC_iff.2 (hc.conn hv)
  · rw [(dm (a := x / 4) (b := y / 4) (n := S.length) (by omega)).1, (dm (a := x / 4) (b := y / 4) (n := S.length) (by omega)).2, Bool.eq_false_iff]
    exact fun h => (cut_valid hv hc).2 (okC_iff.1 h)
theorem end_some {S : List Int} {L : Int} : ∀ (k : Nat) (M : List Int), vldB S M L = true → mu M S.length ≤ k → ∃ N, Steps S M N ∧ NoCut S N := by
  intro k
  induction k with
  | zero =>
    intro M hv h
    refine ⟨M, .refl _, fun x y hc => ?_⟩
    have := mu_lt hv hc
    omega
  | succ k ih =>
    intro M hv h
    by_cases g : ∃ x y, Cut S M x y
    · obtain ⟨x, y, hc⟩ := g
      have := mu_lt hv hc
      obtain ⟨N, h1, h2⟩ := ih _ (cut_valid hv hc).1 (by omega)
      exact ⟨N, .step hc h1, h2⟩
    · exact ⟨M, .refl _, fun x y hc => g ⟨x, y, hc⟩⟩
theorem end_uniq {S : List Int} {L : Int} : ∀ (k : Nat) (M N N' : List Int), vldB S M L = true → mu M S.length ≤ k → Steps S M N → NoCut S N → Steps S M N' → NoCut S N' → N = N' := by
  intro k
  induction k with
  | zero =>
    intro M N N' hv h s1 _ s2 _
    have hno : NoCut S M := fun x y hc => by have := mu_lt hv hc; omega
    cases s1 with
    | step hc _ => exact absurd hc (hno _ _)
    | refl _ =>
      cases s2 with
      | step hc _ => exact absurd hc (hno _ _)
      | refl _ => rfl
  | succ k ih =>
    intro M N N' hv h s1 e1 s2 e2
    cases s1 with
    | refl _ =>
      cases s2 with
      | step hc _ => exact absurd hc (e1 _ _)
      | refl _ => rfl
    | step hc1 t1 =>
      cases s2 with
      | refl _ => exact absurd hc1 (e2 _ _)
      | step hc2 t2 =>
        obtain ⟨K, m1, m2⟩ := meet_all hv hc1 hc2
        have hv1 := (cut_valid hv hc1).1
        have hv2 := (cut_valid hv hc2).1
        obtain ⟨E, x1, x2⟩ := end_some _ K (m1.valid hv1) (Nat.le_refl _)
        have l1 := mu_lt hv hc1
        have l2 := mu_lt hv hc2
        rw [ih _ N E hv1 (by omega) t1 e1 (m1.trans x1) x2, ih _ N' E hv2 (by omega) t2 e2 (m2.trans x1) x2]
end Go.Proofs.YtmjoijfafachhaaGreatDoor

