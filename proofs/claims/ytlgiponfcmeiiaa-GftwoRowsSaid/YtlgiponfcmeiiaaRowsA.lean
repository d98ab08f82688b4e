/- Steps of a region that draws its order: appends to slices that the call owns, whatever was made since; rows exchanged in a table. No condition. -/
import Derived.Test.YtlgiponfcmeiiaaPlusW
import Derived.Test.YtlgiponfcmeiiaaRowP
namespace Go.Proofs.Ytlgiponfcmeiiaa
open Go Go.RowKit
theorem bel_alloc {w w' : World} (h : Below w.heap.size w w') (o : Obj) : Below w.heap.size w (w'.alloc o) := h.alloc h.size o
namespace HH
variable {w0 w : World} {l : Kn} {s : List SlO}
/-- An empty slice, made. -/
theorem made (h : HH w0 w l s) (E : TypeId) : HH w0 (w.alloc (.cells #[] E)) l (s ++ [⟨some ⟨w.heap.size, 0, none⟩, 0, E, []⟩]) :=
  h.addSl ((Below.refl _ _).alloc (Nat.le_refl _) _) (Own.made #[] (Nat.le_refl _))
/-- A block of one cell, made. -/
theorem one (h : HH w0 w l s) (u : Value) (E : TypeId) : HH w0 (w.alloc (.cells #[u] E)) (l ++ [(w.heap.size, rowO E [u])]) s :=
  h.alloc #[u] E rfl rfl
end HH
section
variable {w : World} {ops : Array Oper} {o : Oper} {a : Act}
theorem up_at {K : Act → World → Prop} {Q : Exit → Act → World → Prop} {E0 : Prop} {w0 : World} {l : Kn} {s : List SlO} (H : HH w0 w l s)
    (h : HH w0 w l s → if Region.wanted o (yielded ops a.tmps) = true then Oper.wp Try.prog o a w K Q else E0) : if Region.wanted o (yielded ops a.tmps) = true then Oper.wp Try.prog o a w K Q else E0 := h H
/-- An append of many. -/
theorem step_many {K : Act → World → Prop} {Q : Exit → Act → World → Prop} {E0 : Prop} (hgd : o.guard = none) (s x : Operand) (t : TypeId) (ho : o.op = .call { callee := .builtin .append, args := #[s, x], argTypes := #[t, t] })
    (El : TypeId) (i : TypeInfo) (z : Value) (bytes : Nat) (hu : Try.prog.underlying t = some (.slice El)) (h2 : Try.prog.info? El = some i) (h3 : i.zero = some z) (h4 : i.size = 1) (h5 : i.bytes = bytes) (hz : z.cells.size = 1) (hb : bytes ≤ 24)
    {w0 : World} {l : Kn} {sl : List SlO} (H : HH w0 w l sl) (k : Nat) {A : Option Addr} {c : Nat} {vs : List Value} (hk : nthO sl k = some ⟨A, c, El, vs⟩) {n : Nat} (hn : vs.length = n) {A' : Option Addr} (hs : a.eval s = .slice A' n c) (hA' : A' = A)
    {ax : Option Addr} {cx m r : Nat} {us : List Value} (hm : us.length = m) (hx : a.eval x = .slice ax m cx) (hus : VAt w0 ax us) (hu1 : ∀ u ∈ us, u.oneCell' = true) (hl : n + m ≤ 2000000) (hr : n + m = r)
    (h : ∀ A' c' w', HH w0 w' l (setO sl k ⟨A', c', El, vs ++ us⟩) → K (a.put o.dst (.slice A' r c')) w') :
    if Region.wanted o (yielded ops a.tmps) = true then Oper.wp Try.prog o a w K Q else E0 := by
  have hw : Region.wanted o (yielded ops a.tmps) = true := by simp [Region.wanted, hgd]
  rw [if_pos hw]
  subst hn; subst hm; subst hr; subst hA'
  have hby : (vs.length + us.length) * bytes ≤ 140737488355328 := by
    have : (vs.length + us.length) * bytes ≤ 2000000 * 24 := Nat.mul_le_mul hl hb
    omega
  obtain ⟨a', c', w', hrun, r1, r2, r3⟩ := run_append_many (P := Try.prog) w w0.heap.size t t o.type El i z bytes hu hu h2 h3 h4 h5 hz A' c vs (H.sl hk) ax cx us (hus.later H.below) hu1 hby (by omega) H.below.size
  unfold Oper.wp
  simp [execOp, ho, resolve, invoke, builtin, hs, hx, hrun, Result.andThen]
  exact h a' c' w' (H.grow hk r1 r2 r3)
/-- An append of one, that lies in a block of its own. -/
theorem step_one {K : Act → World → Prop} {Q : Exit → Act → World → Prop} {E0 : Prop} (hgd : o.guard = none) (s x : Operand) (t : TypeId) (ho : o.op = .call { callee := .builtin .append, args := #[s, x], argTypes := #[t, t] })
    (El : TypeId) (i : TypeInfo) (z : Value) (bytes : Nat) (hu : Try.prog.underlying t = some (.slice El)) (h2 : Try.prog.info? El = some i) (h3 : i.zero = some z) (h4 : i.size = 1) (h5 : i.bytes = bytes) (hz : z.cells.size = 1) (hb : bytes ≤ 24)
    {w0 : World} {l : Kn} {sl : List SlO} (H : HH w0 w l sl) (k : Nat) {A : Option Addr} {c : Nat} {vs : List Value} (hk : nthO sl k = some ⟨A, c, El, vs⟩) {n : Nat} (hn : vs.length = n) {A' : Option Addr} (hs : a.eval s = .slice A' n c) (hA' : A' = A)
    (j : Nat) {b cx : Nat} {Eb : TypeId} {u : Value} (hj : nthO l j = some (b, rowO Eb [u])) {b' : Nat} (hx : a.eval x = .slice (some ⟨b', 0, none⟩) 1 cx) (hb' : b' = b) (hu1 : u.oneCell' = true) (hl : n ≤ 1000000)
    (h : ∀ A' c' w', HH w0 w' l (setO sl k ⟨A', c', El, vs ++ [u]⟩) → K (a.put o.dst (.slice A' (n + 1) c')) w') :
    if Region.wanted o (yielded ops a.tmps) = true then Oper.wp Try.prog o a w K Q else E0 := by
  have hw : Region.wanted o (yielded ops a.tmps) = true := by simp [Region.wanted, hgd]
  rw [if_pos hw]
  subst hn; subst hA'; subst hb'
  have hby : (vs.length + 1) * bytes ≤ 140737488355328 := by
    have : (vs.length + 1) * bytes ≤ 1000001 * 24 := Nat.mul_le_mul (by omega) hb
    omega
  obtain ⟨a', c', w', hrun, r1, r2, r3⟩ := run_append_one (P := Try.prog) w w0.heap.size t o.type El i z bytes hu h2 h3 h4 h5 hz A' c vs (H.sl hk) ⟨b', 0, none⟩ cx u (H.cell hj rfl) hu1 hby (by omega) H.below.size
  unfold Oper.wp
  simp [execOp, ho, resolve, invoke, builtin, hs, hx, hrun, Result.andThen]
  exact h a' c' w' (H.grow hk r1 r2 r3)
end
/-- A row put in the place of another one. -/
theorem RowsAt.set {w : World} {vs : List Value} {T : List (List Int)} (h : RowsAt w vs T) (i : Nat) {a : Option Addr} {c : Nat} {row : List Int} (hl : row.length ≤ c) (hr : IntsAt w a row) : RowsAt w (vs.set i (.slice a row.length c)) (T.set i row) := by
  refine ⟨by simp [h.1], fun j v ys h1 h2 => ?_⟩
  rw [List.getElem?_set] at h1 h2
  by_cases e : i = j
  · subst e
    rw [if_pos rfl] at h1 h2
    split at h1
    · rw [if_pos (by have := h.1; omega)] at h2
      cases h1; cases h2
      exact ⟨a, c, rfl, hl, hr⟩
    · cases h1
  · rw [if_neg e] at h1 h2
    exact h.2 j v ys h1 h2
theorem tabN_set (C : Nat) (xs : List Nat) (i x : Nat) : tabN C (xs.set i x) = (tabN C xs).set i (rowOf C x) := List.map_set
theorem tabN_snoc (C : Nat) (xs : List Nat) (x : Nat) : tabN C (xs ++ [x]) = tabN C xs ++ [rowOf C x] := by unfold tabN; rw [List.map_append]; rfl
/-- The values of the rows, one by one. -/
theorem TabAt.vals {w : World} {a : Option Addr} {C : Nat} {xs : List Nat} (h : TabAt w a (tabN C xs)) (h0 : 0 < xs.length) :
    ∃ (b o : Nat) (vs : List Value), a = some ⟨b, o, none⟩ ∧ b < w.heap.size ∧ RowsAt w vs (tabN C xs) ∧ VAt w (some ⟨b, o, none⟩) vs ∧ vs.length = xs.length ∧ (∀ u ∈ vs, u.oneCell' = true) ∧
      ∀ i, i < xs.length → ∃ a' c', vs[i]? = some (.slice a' (rowOf C (xs.getD i 0)).length c') ∧ (rowOf C (xs.getD i 0)).length ≤ c' ∧ IntsAt w a' (rowOf C (xs.getD i 0)) := by
  obtain ⟨vs, hr, hv⟩ := h.rows
  have hl : vs.length = xs.length := by rw [hr.1, tabN_len]
  obtain ⟨b, o, rfl, hb, _⟩ := h.open (by rw [tabN_len]; exact h0)
  refine ⟨b, o, vs, rfl, hb, hr, hv, hl, fun u hu => ?_, fun i hi => ?_⟩
  · obtain ⟨j, hj⟩ := List.getElem?_of_mem hu
    have hjl := (List.getElem?_eq_some_iff.1 hj).1
    obtain ⟨a', c', e, _⟩ := hr.2 j u _ hj (tabN_get (by omega))
    rw [e]; rfl
  · obtain ⟨a', c', e, h1, h2⟩ := hr.2 i _ _ (List.getElem?_eq_getElem (by omega)) (tabN_get hi)
    exact ⟨a', c', by rw [List.getElem?_eq_getElem (by omega), e], h1, h2⟩
/-- What stands in a row that is read, cell by cell, in every later world. -/
theorem vat_cell {w W : World} {b o : Nat} {vs : List Value} (h : VAt w (some ⟨b, o, none⟩) vs) (hb : Below w.heap.size w W) {i : Nat} {v : Value} (hi : vs[i]? = some v) : W.cell? ⟨b, o + i, none⟩ = some v := by
  obtain ⟨b', o', e, hc⟩ := h i v hi
  cases e
  exact (hb.cell (p := ⟨b, o + i, none⟩) (World.block_lt_of_cell? w _ hc)).trans hc
/-- 'append([][]int{}, rows...)'. -/
theorem copy_rows {W : World} {ax : Option Addr} {n cx : Nat} {vs : List Value} (hv : VAt W ax vs) (hn : vs.length = n) (h1 : ∀ u ∈ vs, u.oneCell' = true) (hn1 : n ≤ 1000000) :
    ∃ A E w2, (Builtin.append_ #[22, 22] 22 #[.slice (some ⟨W.heap.size, 0, none⟩) 0 0, .slice ax n cx]).run Try.prog (W.alloc (.cells #[] 36)) = .ok (.slice A n E) w2 ∧ HH W w2 [] [⟨A, E, 36, vs⟩] := by
  obtain ⟨i0, hi0, hz0, hz1, hz2⟩ := info_parts Try.info36
  have hA := (HH.start W).made 36
  subst hn
  obtain ⟨A, E, w2, h2, h3, h4, h5⟩ := run_append_many (P := Try.prog) (W.alloc (.cells #[] 36)) W.heap.size 22 22 22 36 i0 (.slice none 0 0) 24 Try.underlying22 Try.underlying22 hi0 hz0 hz1 hz2 rfl (some ⟨W.heap.size, 0, none⟩) 0 [] (hA.sl (k := 0) rfl) ax cx vs (hv.later hA.below) h1 (by rw [List.length_nil]; omega) (by rw [List.length_nil]; omega) hA.below.size
  rw [List.length_nil, Nat.zero_add] at h2
  refine ⟨A, E, w2, h2, ?_⟩
  have := hA.grow (k := 0) rfl h3 h4 h5
  rw [List.nil_append] at this
  exact this
theorem wrap_small {x : Int} (h0 : 0 ≤ x) (h1 : x ≤ 1000000) : wrap64 x = x := by
  unfold wrap64; omega
/-- Which two rows the law takes. -/
theorem two_rows (p q L : Nat) (h2 : 2 ≤ L) (h30 : L ≤ 30) : ∃ i j k m1 m2 : Nat, i < L ∧ k < L ∧ i ≠ k ∧ (p : Int) % (L : Int) = (i : Int) ∧ (q : Int) % ((L : Int) - 1) = (j : Int) ∧ wrap64 ((i : Int) + 1) = (m1 : Int) ∧ wrap64 ((i : Int) + 1 + (j : Int)) = (m2 : Int) ∧ (m2 : Int).tmod (L : Int) = (k : Int) ∧ (m2 : Int) % (L : Int) = (k : Int) := by
  have hiL : p % L < L := Nat.mod_lt _ (by omega)
  have hjL : q % (L - 1) < L - 1 := Nat.mod_lt _ (by omega)
  have hkL : (p % L + 1 + q % (L - 1)) % L < L := Nat.mod_lt _ (by omega)
  have hkk : (((p % L + 1 + q % (L - 1)) % L : Nat) : Int) = ((p % L + 1 + q % (L - 1) : Nat) : Int) % (L : Int) := Int.natCast_emod _ _
  refine ⟨p % L, q % (L - 1), (p % L + 1 + q % (L - 1)) % L, p % L + 1, p % L + 1 + q % (L - 1), hiL, hkL, ?_, (Int.natCast_emod p L).symm, ?_, ?_, ?_, ?_, hkk.symm⟩
  · generalize p % L = i at *
    generalize q % (L - 1) = j at *
    rcases Nat.lt_or_ge (i + 1 + j) L with g | g
    · rw [Nat.mod_eq_of_lt g]; omega
    · rw [Nat.mod_eq_sub_mod g, Nat.mod_eq_of_lt (by omega)]; omega
  · rw [show (L : Int) - 1 = ((L - 1 : Nat) : Int) by omega]; exact (Int.natCast_emod q _).symm
  · generalize p % L = i at *
    clear hkk hkL
    rw [wrap_small (by omega) (by omega)]; rfl
  · generalize p % L = i at *
    generalize q % (L - 1) = j at *
    clear hkk hkL
    rw [wrap_small (by omega) (by omega)]; rfl
  · rw [hkk]
    exact Int.tmod_eq_emod_of_nonneg (Int.natCast_nonneg _)
end Go.Proofs.Ytlgiponfcmeiiaa
