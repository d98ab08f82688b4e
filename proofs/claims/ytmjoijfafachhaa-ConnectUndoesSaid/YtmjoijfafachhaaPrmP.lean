/- Plain law: how many prime factors there are at most; an append of whole lists in a region that draws its order. -/
import Derived.Test.YtmjoijfafachhaaFacP
namespace Go.Proofs.Ytmjoijfafachhaa
open Go Go.RowKit
theorem fac_sum {S M : List Int} {L : Int} (hv : vldB S M L = true) {p : Nat × Nat} (hp : p ∈ cutsL S M) : (facA S M p.1 p.2).1.length + (facB S M p.1 p.2).1.length ≤ S.length ∧ 0 < (facA S M p.1 p.2).1.length ∧ 0 < (facB S M p.1 p.2).1.length := by
  obtain ⟨h1, h2, h3, h4, h5, h6⟩ := (mem_cuts hv).1 hp
  have hx : p.1 < 4 * S.length := by omega
  obtain ⟨hv', hno⟩ := cut_sph hv hx h2 h3 h4 (by omega) h5 h6
  have hm := (vldB_shape hv').mates2.ok
  show (partS S (clsN (crossL M p.1 p.2) S.length (p.1 / 4))).length + (partS S (clsN (crossL M p.1 p.2) S.length (p.2 / 4))).length ≤ S.length ∧ 0 < (partS S (clsN (crossL M p.1 p.2) S.length (p.1 / 4))).length ∧ 0 < (partS S (clsN (crossL M p.1 p.2) S.length (p.2 / 4))).length
  rw [partS_len, partS_len]
  have w1 := whole_cls hm (p.1 / 4)
  have w2 := whole_cls hm (p.2 / 4)
  have hnd : (clsN (crossL M p.1 p.2) S.length (p.1 / 4) ++ clsN (crossL M p.1 p.2) S.length (p.2 / 4)).Nodup := by
    rw [List.nodup_append]
    refine ⟨w1.nd, w2.nd, fun a ha b hb e => ?_⟩
    subst e
    exact hno ((mem_clsN.1 ha).2.trans (hm.conn_symm (by omega) (mem_clsN.1 hb).2))
  have hl := hnd.length_le_of_subset (l₂ := List.range S.length) fun c hc => by
    rcases List.mem_append.1 hc with e | e
    · exact List.mem_range.2 (mem_clsN.1 e).1
    · exact List.mem_range.2 (mem_clsN.1 e).1
  rw [List.length_append, List.length_range] at hl
  exact ⟨hl, List.length_pos_of_mem (cls_self (by omega)), List.length_pos_of_mem (cls_self (by omega))⟩
theorem primeN_len : ∀ (k : Nat) (S M : List Int) (L : Int), vldB S M L = true → (primeN k S M L).length ≤ max 1 S.length := fun k => by
  induction k with
  | zero => intro S M L _; show 1 ≤ _; omega
  | succ k ih =>
    intro S M L hv
    cases h : cutsL S M with
    | nil => rw [primeN_none h]; show 1 ≤ _; omega
    | cons p l =>
      obtain ⟨_, va, vb, _, _⟩ := fac_cuts0 hv h
      obtain ⟨s1, s2, s3⟩ := fac_sum hv (p := p) (by rw [h]; exact List.mem_cons_self)
      rw [primeN_cons h, List.length_append]
      have a := ih _ _ _ va
      have b := ih _ _ _ vb
      omega
theorem primeL_len {S M : List Int} {L : Int} (hv : vldB S M L = true) : (primeL S M L).length ≤ 64 := by
  have := primeN_len S.length S M L hv
  have hf := (vldB_shape hv).few
  unfold primeL; omega
section
variable {P : Program} {ops : Array Oper} {o : Oper} {a : Act} {w : World}
/-- Append of elements of k cells at a step of a region that draws its order. -/
theorem step_append_wide {K : Act → World → Prop} {Q : Exit → Act → World → Prop} {Z : Prop} (hg : o.guard = none) (s x : Operand) (t tx : TypeId) (hop : o.op = .call { callee := .builtin .append, args := #[s, x], argTypes := #[t, tx] })
    (B : Nat) (E : TypeId) (i : TypeInfo) (z : Value) (bytes k : Nat) (h1 : P.underlying t = some (.slice E)) (h1x : P.underlying tx = some (.slice E)) (h2 : P.info? E = some i) (h3 : i.zero = some z) (h4 : i.size = k) (hk : 0 < k) (h5 : i.bytes = bytes) (hz : z.cells.size = k)
    (A : Option Addr) (n c : Nat) (vs : List Value) (hs : a.eval s = .slice A n c) (hn : vs.length = n * k) (hnc : n ≤ c) (hown : Own w B E A (c * k) vs) (ax : Option Addr) (m cx : Nat) (us : List Value) (hx : a.eval x = .slice ax m cx) (hm : us.length = m * k) (hus : VAt w ax us) (hu1 : ∀ u ∈ us, u.oneCell' = true)
    (hbytes : (n + m) * bytes ≤ 140737488355328) (h63 : n + m ≤ 9223372036854775807) (hB : B ≤ w.heap.size)
    (hK : ∀ A' c' w', n + m ≤ c' → Own w' B E A' (c' * k) (vs ++ us) → Turned w w' A → (∀ x, A' = some x → (w.heap.size ≤ x.block ∨ ∃ y, A = some y ∧ x = y)) → K (a.put o.dst (.slice A' (n + m) c')) w') :
    if Region.wanted o (yielded ops a.tmps) = true then Oper.wp P o a w K Q else Z := by
  have hw : Region.wanted o (yielded ops a.tmps) = true := by simp [Region.wanted, hg]
  rw [if_pos hw]
  obtain ⟨a', c', w', hrun, r0, r1, r2, r3⟩ := run_append_wide (P := P) w B t tx o.type E i z bytes k h1 h1x h2 h3 h4 hk h5 hz A n c vs hn hnc hown ax m cx us hm hus hu1 hbytes h63 hB
  unfold Oper.wp
  simp [execOp, hop, resolve, invoke, builtin, hs, hx, hrun, Result.andThen]
  exact hK a' c' w' r0 r1 r2 r3
end
/-- One-cell values: what lists of diagrams hold. -/
theorem CellsOf.one' {w : World} {B0 : Nat} {vs : List Value} {ds : List Dgm} (h : CellsOf w B0 vs ds) : ∀ u ∈ vs, u.oneCell' = true := fun u hu => by
  obtain ⟨j, hj, rfl⟩ := List.getElem_of_mem hu
  have hl := h.1
  have hd : j / 3 < ds.length := by omega
  obtain ⟨a, c, b, e, h1, h2, h3, _⟩ := h.2 (j / 3) _ (List.getElem?_eq_getElem hd)
  have hj3 : j % 3 = 0 ∨ j % 3 = 1 ∨ j % 3 = 2 := by omega
  rcases hj3 with g | g | g
  · rw [show j / 3 * 3 = j by omega, List.getElem?_eq_getElem hj] at h1
    rw [Option.some.inj h1]; rfl
  · rw [show j / 3 * 3 + 1 = j by omega, List.getElem?_eq_getElem hj] at h2
    rw [Option.some.inj h2]; rfl
  · rw [show j / 3 * 3 + 2 = j by omega, List.getElem?_eq_getElem hj] at h3
    rw [Option.some.inj h3]; rfl
end Go.Proofs.Ytmjoijfafachhaa
