/- Tables of numbers that are read: rows, entries, in every later world. No condition. -/
import Derived.Test.YtlgiponfcmeiiaaDoorQuaA
namespace Go.Proofs.YtlgiponfcmeiiaaDoor
open Go Go.RowKit
/-- Does it hold? -/
noncomputable def okB (p : Prop) : Bool := @decide p (Classical.propDecidable p)
theorem okB_iff {p : Prop} : okB p = true ↔ p := @decide_eq_true_iff p (Classical.propDecidable p)
theorem okB_yes {p : Prop} (h : p) : okB p = true := okB_iff.2 h
theorem okB_no {p : Prop} (h : ¬ p) : okB p = false := by rw [← Bool.not_eq_true]; exact fun e => h (okB_iff.1 e)
theorem okB_congr {p q : Prop} (h : p ↔ q) : okB p = okB q := by rw [Bool.eq_iff_iff, okB_iff, okB_iff]; exact h
/-- Behind ⟨b, o⟩ lie n rows of n numbers below n. -/
structure Grd (w : World) (b o : Nat) (P Q C : Nat → Nat) (n : Nat) (f : Nat → Nat → Nat) : Prop where
  row : ∀ x, x < n → w.cell? ⟨b, o + x, none⟩ = some (.slice (some ⟨P x, Q x, none⟩) n (C x))
  cap : ∀ x, x < n → n ≤ C x
  el : ∀ x y, x < n → y < n → w.cell? ⟨P x, Q x + y, none⟩ = some (.int .i64 (f x y : Nat))
  lt : ∀ x y, x < n → y < n → f x y < n
theorem Grd.later {w w' : World} {b o : Nat} {P Q C : Nat → Nat} {n : Nat} {f : Nat → Nat → Nat} (h : Grd w b o P Q C n f) (hb : Below w.heap.size w w') : Grd w' b o P Q C n f :=
  ⟨fun x hx => (hb.cell (p := ⟨b, o + x, none⟩) (World.block_lt_of_cell? w _ (h.row x hx))).trans (h.row x hx), h.cap,
   fun x y hx hy => (hb.cell (p := ⟨P x, Q x + y, none⟩) (World.block_lt_of_cell? w _ (h.el x y hx hy))).trans (h.el x y hx hy), h.lt⟩
theorem tb_tbn {T : List (List Int)} {n x y : Nat} (hs : Shp T n) (hx : x < n) (hy : y < n) : tb T x y = (tbn T x y : Nat) ∧ tbn T x y < n := by
  have := (hs.2 x hx).2 y hy
  unfold tbn
  omega
theorem grd_of {w : World} {a : Option Addr} {T : List (List Int)} {n : Nat} (hT : TabAt w a T) (h1 : 1 ≤ n) (hs : Shp T n) : ∃ b o P Q C, a = some ⟨b, o, none⟩ ∧ Grd w b o P Q C n (tbn T) := by
  obtain ⟨b, o, rfl, _, hF⟩ := hT.open (by rw [hs.1]; omega)
  have key : ∀ x, x < n → ∃ p : Nat × Nat × Nat, w.cell? ⟨b, o + x, none⟩ = some (.slice (some ⟨p.1, p.2.1, none⟩) n p.2.2) ∧ n ≤ p.2.2 ∧ ∀ y, y < n → w.cell? ⟨p.1, p.2.1 + y, none⟩ = some (.int .i64 (tbn T x y : Nat)) := fun x hx => by
    have hg : T[x]? = some (T.getD x []) := by
      have : x < T.length := by rw [hs.1]; exact hx
      simp [this]
    obtain ⟨a', c', e1, e2, e3⟩ := hF x _ hg
    have hl := (hs.2 x hx).1
    rw [hl] at e1 e2
    obtain ⟨b2, o2, rfl, _, hc⟩ := e3.open (by rw [hl]; omega)
    refine ⟨(b2, o2, c'), e1, e2, fun y hy => ?_⟩
    have := hc y (by rw [hl]; exact hy)
    rw [← (tb_tbn hs hx hy).1]
    exact this
  refine ⟨b, o, fun x => if h : x < n then (Classical.choose (key x h)).1 else 0, fun x => if h : x < n then (Classical.choose (key x h)).2.1 else 0, fun x => if h : x < n then (Classical.choose (key x h)).2.2 else 0, rfl, ?_⟩
  refine ⟨fun x hx => ?_, fun x hx => ?_, fun x y hx hy => ?_, fun x y hx hy => (tb_tbn hs hx hy).2⟩
  · simp only [dif_pos hx]; exact (Classical.choose_spec (key x hx)).1
  · simp only [dif_pos hx]; exact (Classical.choose_spec (key x hx)).2.1
  · simp only [dif_pos hx]; exact (Classical.choose_spec (key x hx)).2.2 y hy
theorem grd_tab {w : World} {b o : Nat} {P Q C : Nat → Nat} {n : Nat} {T : List (List Int)} (h : Grd w b o P Q C n (tbn T)) (hs : Shp T n) : TabAt w (some ⟨b, o, none⟩) T := fun x row hx => by
  have hxl := (List.getElem?_eq_some_iff.1 hx).1
  have hxn : x < n := by rw [← hs.1]; exact hxl
  have hg : T.getD x [] = row := by rw [List.getD_eq_getElem?_getD, hx]; rfl
  have hl : row.length = n := by rw [← hg]; exact (hs.2 x hxn).1
  refine ⟨b, o, some ⟨P x, Q x, none⟩, C x, rfl, by rw [hl]; exact h.row x hxn, by rw [hl]; exact h.cap x hxn, fun y v hv => ?_⟩
  have hy : y < row.length := by have := (List.getElem?_eq_some_iff.1 hv).1; rwa [ints_length] at this
  rw [ints_get _ _ hy] at hv
  cases hv
  refine ⟨P x, Q x, rfl, ?_⟩
  have := h.el x y hxn (by omega)
  rw [← (tb_tbn hs hxn (by omega)).1] at this
  unfold tb at this
  rwa [hg] at this
/-- The axioms, of numbers. -/
def IdmN (f : Nat → Nat → Nat) (n : Nat) : Prop := ∀ x, x < n → f x x = x
def IvtN (f : Nat → Nat → Nat) (n : Nat) : Prop := ∀ y, y < n → ∀ x z, x < n → z < n → f x y = f z y → x = z
def DstN (f : Nat → Nat → Nat) (n : Nat) : Prop := ∀ x, x < n → ∀ y, y < n → ∀ z, z < n → f (f x y) z = f (f x z) (f y z)
theorem idm_iff {T : List (List Int)} {n : Nat} (hs : Shp T n) : Idm T n ↔ IdmN (tbn T) n :=
  ⟨fun h x hx => by have := h x hx; have := (tb_tbn hs hx hx).1; omega, fun h x hx => by have := h x hx; have := (tb_tbn hs hx hx).1; omega⟩
theorem ivt_iff {T : List (List Int)} {n : Nat} (hs : Shp T n) : Ivt T n ↔ IvtN (tbn T) n :=
  ⟨fun h y hy x z hx hz e => h y hy x z hx hz (by rw [(tb_tbn hs hx hy).1, (tb_tbn hs hz hy).1, e]), fun h y hy x z hx hz e => h y hy x z hx hz (by rw [(tb_tbn hs hx hy).1, (tb_tbn hs hz hy).1] at e; omega)⟩
theorem dst_iff {T : List (List Int)} {n : Nat} (hs : Shp T n) : Dst T n ↔ DstN (tbn T) n :=
  ⟨fun h x hx y hy z hz => by
    have := h x hx y hy z hz
    unfold tbn at *
    rw [this], fun h x hx y hy z hz => by
    have e := h x hx y hy z hz
    have hxy := (tb_tbn hs hx hy).2
    have hxz := (tb_tbn hs hx hz).2
    have hyz := (tb_tbn hs hy hz).2
    rw [(tb_tbn hs hxy hz).1, (tb_tbn hs hxz hyz).1, e]⟩
end Go.Proofs.YtlgiponfcmeiiaaDoor
