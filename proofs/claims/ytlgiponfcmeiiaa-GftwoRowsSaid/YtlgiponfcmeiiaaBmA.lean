/- Tables of bits that a call owns and turns. -/
import Derived.Test.YtlgiponfcmeiiaaRrP
namespace Go.Proofs.Ytlgiponfcmeiiaa
open Go Go.RowKit
theorem HH.permS {w0 w : World} {l : Kn} {s s' : List SlO} (h : HH w0 w l s) (hp : s.Perm s') : HH w0 w l s' :=
  ⟨h.below, h.blk, fun x hx => h.own x (hp.mem_iff.2 hx), h.nd1, (hp.pairwise_iff (fun {_ _} h p q hp hq e => h q p hq hp e.symm)).1 h.nd2, fun x hx y hy => h.nd3 x hx y (hp.mem_iff.2 hy)⟩
theorem nthO_get {α : Type} : ∀ (l : List α) (i : Nat), nthO l i = l[i]?
  | [], _ => by simp [nthO]
  | _ :: _, 0 => by simp [nthO]
  | _ :: l, i + 1 => by simp [nthO, nthO_get l i]
theorem setO_set {α : Type} : ∀ (l : List α) (i : Nat) (x : α), setO l i x = l.set i x
  | [], _, _ => rfl
  | _ :: _, 0, _ => rfl
  | _ :: l, i + 1, x => by simp [setO, setO_set l i x]
/-- Bits as a row: the first C of a function. -/
def rowF (C : Nat) (f : Nat → Bool) : List Bool := (List.range C).map f
theorem rowF_len (C : Nat) (f : Nat → Bool) : (rowF C f).length = C := by simp [rowF]
theorem rowF_bth {C k : Nat} (f : Nat → Bool) (h : k < C) : bth (rowF C f) k = f k := by simp [bth, rowF, h]
theorem rowF_set (C k : Nat) (f : Nat → Bool) (v : Bool) : (rowF C f).set k v = rowF C (fun l => if l = k then v else f l) := by
  apply List.ext_getElem
  · simp [rowF]
  · intro i h1 h2
    rw [List.getElem_set]
    by_cases e : k = i
    · subst e; simp [rowF]
    · rw [if_neg e]
      have : ¬ i = k := fun h => e h.symm
      simp [rowF, this]
theorem rowF_congr {C : Nat} {f g : Nat → Bool} (h : ∀ k, k < C → f k = g k) : rowF C f = rowF C g := List.map_congr_left fun k hk => h k (List.mem_range.1 hk)
/-- A table of bits, n rows of C bits each, that the call owns. -/
def BM (w0 W : World) (A : Option Addr) (E C n : Nat) (F : Nat → Nat → Bool) : Prop :=
  ∃ ms : List SlO, ms.length = n ∧ HH w0 W [] (⟨A, E, 52, ms.map slV⟩ :: ms) ∧ ∀ (i : Nat) (d : SlO), ms[i]? = some d → d.E = 4 ∧ d.vs = bools (rowF C (F i))
variable {w0 W : World} {A : Option Addr} {E C n : Nat} {F : Nat → Nat → Bool}
theorem BM.congr (h : BM w0 W A E C n F) {G : Nat → Nat → Bool} (hG : ∀ i k, i < n → k < C → F i k = G i k) : BM w0 W A E C n G := by
  obtain ⟨ms, h1, h2, h3⟩ := h
  refine ⟨ms, h1, h2, fun i d hd => ⟨(h3 i d hd).1, ?_⟩⟩
  have := (List.getElem?_eq_some_iff.1 hd).1
  rw [(h3 i d hd).2, rowF_congr (fun k hk => hG i k (by omega) hk)]
theorem BM.drew (h : BM w0 W A E C n F) : BM w0 W.drew A E C n F := by
  obtain ⟨ms, h1, h2, h3⟩ := h
  exact ⟨ms, h1, h2.drew, h3⟩
theorem BM.below (h : BM w0 W A E C n F) : Below w0.heap.size w0 W := by
  obtain ⟨ms, h1, h2, h3⟩ := h
  exact h2.below
/-- Where the rows lie. -/
structure BMAt (w0 W : World) (b o E C n : Nat) (F : Nat → Nat → Bool) (P Q Z : Nat → Nat) : Prop where
  cell : ∀ t, t < n → W.cell? ⟨b, o + t, none⟩ = some (.slice (some ⟨P t, Q t, none⟩) C (Z t))
  fro : ∀ t, t < n → W.frozen? ⟨b, o + t, none⟩ = false
  cap : ∀ t, t < n → C ≤ Z t
  bit : ∀ t k, t < n → k < C → W.cell? ⟨P t, Q t + k, none⟩ = some (.bool (F t k))
  frr : ∀ t k, t < n → W.frozen? ⟨P t, Q t + k, none⟩ = false
  set : ∀ t k v, t < n → k < C → BM w0 (W.setCell ⟨P t, Q t + k, none⟩ (.bool v)) (some ⟨b, o, none⟩) E C n (fun j l => if j = t ∧ l = k then v else F j l)
  beh : ∀ p r v, p < n → r < n → ∃ u, (W.setCell ⟨b, o + p, none⟩ v).cell? ⟨b, o + r, none⟩ = some u
  swap : ∀ p r, p < n → r < n → BM w0 ((W.setCell ⟨b, o + p, none⟩ (.slice (some ⟨P r, Q r, none⟩) C (Z r))).setCell ⟨b, o + r, none⟩ (.slice (some ⟨P p, Q p, none⟩) C (Z p))) (some ⟨b, o, none⟩) E C n (fun j => if r = j then F p else if p = j then F r else F j)
def msA (ms : List SlO) (t : Nat) : Addr := ((ms[t]?).bind (·.a)).getD ⟨0, 0, none⟩
def msC (ms : List SlO) (t : Nat) : Nat := ((ms[t]?).map (·.c)).getD 0
theorem BM.open (h : BM w0 W A E C n F) (hC : 0 < C) (hn : 0 < n) : ∃ b o, A = some ⟨b, o, none⟩ ∧ ∃ P Q Z, BMAt w0 W b o E C n F P Q Z := by
  obtain ⟨ms, h1, hh, hm⟩ := h
  have htop : nthO ((⟨A, E, 52, ms.map slV⟩ : SlO) :: ms) 0 = some ⟨A, E, 52, ms.map slV⟩ := rfl
  obtain ⟨b, o, rfl, _, _, hc, hf⟩ := (hh.sl htop).open (by show 0 < (ms.map slV).length; rw [List.length_map]; omega)
  have hval : ∀ t, t < n → ∃ d, ms[t]? = some d ∧ d.a = some ⟨(msA ms t).block, (msA ms t).off, none⟩ ∧ d.c = msC ms t ∧ C ≤ d.c ∧ d.E = 4 ∧ d.vs = bools (rowF C (F t)) ∧ Own W w0.heap.size d.E d.a d.c d.vs ∧ slV d = .slice (some ⟨(msA ms t).block, (msA ms t).off, none⟩) C (msC ms t) := fun t ht => by
    have hd := List.getElem?_eq_getElem (l := ms) (i := t) (by omega)
    obtain ⟨e1, e2⟩ := hm t _ hd
    have ho := hh.own _ (List.mem_cons_of_mem _ (List.mem_of_getElem? hd))
    have hl : ms[t].vs.length = C := by rw [e2, bools_length, rowF_len]
    obtain ⟨b', o', ha, _⟩ := ho.open (by omega)
    have hA : msA ms t = ⟨b', o', none⟩ := by simp [msA, hd, ha]
    have hC2 : msC ms t = ms[t].c := by simp [msC, hd]
    have hsz := ho.size
    refine ⟨_, hd, by rw [hA, ha], hC2.symm, by omega, e1, e2, ho, ?_⟩
    unfold slV
    rw [hl, ha, hA, hC2]
  refine ⟨b, o, rfl, fun t => (msA ms t).block, fun t => (msA ms t).off, msC ms, ?_⟩
  have hcell : ∀ t, t < n → (ms.map slV)[t]? = some (.slice (some ⟨(msA ms t).block, (msA ms t).off, none⟩) C (msC ms t)) := fun t ht => by
    obtain ⟨d, hd, _, _, _, _, _, _, hs⟩ := hval t ht
    rw [List.getElem?_map, hd, ← hs]; rfl
  refine ⟨fun t ht => hc t _ (hcell t ht), fun t _ => hf _, fun t ht => ?_, fun t k ht hk => ?_, fun t k ht => ?_, fun t k v ht hk => ?_, fun p r v hp hr => ?_, fun p r hp hr => ?_⟩
  · obtain ⟨d, hd, _, h4, h5, _⟩ := hval t ht
    omega
  · obtain ⟨d, hd, ha, _, _, e1, e2, ho, _⟩ := hval t ht
    obtain ⟨b', o', ha', _, _, hcc, _⟩ := ho.open (by rw [e2, bools_length, rowF_len]; exact hC)
    rw [ha] at ha'
    simp only [Option.some.injEq, Addr.mk.injEq, and_true] at ha'
    have := hcc k (.bool (F t k)) (by rw [e2, bools_get _ k (by rw [rowF_len]; exact hk), rowF_bth _ hk])
    rw [← ha'.1, ← ha'.2] at this
    exact this
  · obtain ⟨d, hd, ha, _, _, e1, e2, ho, _⟩ := hval t ht
    obtain ⟨b', o', ha', _, _, _, hff⟩ := ho.open (by rw [e2, bools_length, rowF_len]; exact hC)
    rw [ha] at ha'
    simp only [Option.some.injEq, Addr.mk.injEq, and_true] at ha'
    rw [← ha'.1] at hff
    exact hff _
  · obtain ⟨d, hd, ha, hc', _, e1, e2, ho, _⟩ := hval t ht
    have hk' : nthO ((⟨some ⟨b, o, none⟩, E, 52, ms.map slV⟩ : SlO) :: ms) (t + 1) = some ⟨some ⟨(msA ms t).block, (msA ms t).off, none⟩, d.c, d.E, d.vs⟩ := by
      show nthO ms t = _
      rw [nthO_get, hd, ← ha]
    have hs := hh.slSet hk' k (by rw [e2, bools_length, rowF_len]; exact hk) (.bool v)
    have hset : setO ((⟨some ⟨b, o, none⟩, E, 52, ms.map slV⟩ : SlO) :: ms) (t + 1) ⟨some ⟨(msA ms t).block, (msA ms t).off, none⟩, d.c, d.E, d.vs.set k (.bool v)⟩ = (⟨some ⟨b, o, none⟩, E, 52, (ms.set t ⟨d.a, d.c, d.E, d.vs.set k (.bool v)⟩).map slV⟩ : SlO) :: (ms.set t ⟨d.a, d.c, d.E, d.vs.set k (.bool v)⟩) := by
      show _ :: setO ms t _ = _
      rw [setO_set, ← ha]
      congr 2
      rw [List.map_set]
      apply List.ext_getElem?
      intro j
      rw [List.getElem?_set]
      by_cases e : t = j
      · subst e
        rw [if_pos rfl, if_pos (by rw [List.length_map]; omega), List.getElem?_map, hd]
        simp [slV]
      · rw [if_neg e]
    rw [hset] at hs
    refine ⟨_, by rw [List.length_set]; exact h1, hs, fun j d' hd' => ?_⟩
    rw [List.getElem?_set] at hd'
    by_cases e : t = j
    · subst e
      rw [if_pos rfl, if_pos (by omega)] at hd'
      cases hd'
      refine ⟨e1, ?_⟩
      show d.vs.set k (.bool v) = _
      rw [e2, bools_set, rowF_set]
      congr 1
      exact rowF_congr fun l _ => by simp
    · rw [if_neg e] at hd'
      refine ⟨(hm j d' hd').1, ?_⟩
      rw [(hm j d' hd').2]
      congr 1
      have : ¬ j = t := fun h => e h.symm
      exact rowF_congr fun l _ => by simp [this]
  · have hb1 := hh.slSet htop p (by rw [List.length_map]; omega) v
    have hl : r < ((ms.map slV).set p v).length := by rw [List.length_set, List.length_map]; omega
    obtain ⟨b', o', ha', hcc⟩ := (hb1.sl (k := 0) rfl).at r _ (List.getElem?_eq_getElem hl)
    have ha' : some (⟨b, o, none⟩ : Addr) = some ⟨b', o', none⟩ := ha'
    simp only [Option.some.injEq, Addr.mk.injEq, and_true] at ha'
    rw [← ha'.1, ← ha'.2] at hcc
    exact ⟨_, hcc⟩
  · obtain ⟨dp, hdp, _, _, _, _, _, _, hsp⟩ := hval p hp
    obtain ⟨dr, hdr, _, _, _, _, _, _, hsr⟩ := hval r hr
    have hb1 := hh.slSet htop p (by rw [List.length_map]; omega) (slV dr)
    have hb2 := hb1.slSet (k := 0) rfl r (by rw [List.length_set, List.length_map]; omega) (slV dp)
    have hperm : (((⟨some ⟨b, o, none⟩, E, 52, ((ms.set p dr).set r dp).map slV⟩ : SlO)) :: ms).Perm ((⟨some ⟨b, o, none⟩, E, 52, ((ms.set p dr).set r dp).map slV⟩ : SlO) :: ((ms.set p dr).set r dp)) := by
      refine List.Perm.cons _ ?_
      have h1' : p < ms.length := by omega
      have h2' : r < ms.length := by omega
      have ep : ms[p] = dp := by rw [List.getElem?_eq_getElem h1'] at hdp; exact Option.some.inj hdp
      have er : ms[r] = dr := by rw [List.getElem?_eq_getElem h2'] at hdr; exact Option.some.inj hdr
      have := List.set_set_perm h1' h2'
      rw [ep, er] at this
      exact this.symm
    rw [← hsp, ← hsr]
    refine ⟨(ms.set p dr).set r dp, by rw [List.length_set, List.length_set]; exact h1, HH.permS (s := (⟨some ⟨b, o, none⟩, E, 52, ((ms.set p dr).set r dp).map slV⟩ : SlO) :: ms) ?_ hperm, fun j d hd => ?_⟩
    · rw [List.map_set, List.map_set]
      exact hb2
    · rw [List.getElem?_set] at hd
      by_cases e : r = j
      · rw [if_pos e, if_pos (by rw [List.length_set]; omega)] at hd
        cases hd
        refine ⟨(hm p _ hdp).1, ?_⟩
        show _ = bools (rowF C (if r = j then F p else _))
        rw [if_pos e]; exact (hm p _ hdp).2
      · rw [if_neg e, List.getElem?_set] at hd
        by_cases e2 : p = j
        · rw [if_pos e2, if_pos (by omega)] at hd
          cases hd
          refine ⟨(hm r _ hdr).1, ?_⟩
          show _ = bools (rowF C (if r = j then F p else if p = j then F r else F j))
          rw [if_neg e, if_pos e2]; exact (hm r _ hdr).2
        · rw [if_neg e2] at hd
          refine ⟨(hm j _ hd).1, ?_⟩
          show _ = bools (rowF C (if r = j then F p else if p = j then F r else F j))
          rw [if_neg e, if_neg e2]; exact (hm j _ hd).2
/-- The bits of a list of rows; a row under way. -/
def bF (ys : List Nat) (i k : Nat) : Bool := (ys.getD i 0).testBit k
def mixF (ys : List Nat) (i r k j l : Nat) : Bool := if j = i ∧ l < k then (ys.getD i 0).testBit l != (ys.getD r 0).testBit l else (ys.getD j 0).testBit l
theorem bF_row (C : Nat) (ys : List Nat) (i : Nat) : rowF C (bF ys i) = bitsB C (ys.getD i 0) := rfl
theorem BM.mix0 {ys : List Nat} (h : BM w0 W A E C n (bF ys)) (i r : Nat) : BM w0 W A E C n (mixF ys i r 0) := h.congr fun j l _ _ => by simp [bF, mixF]
theorem mixF_at (ys : List Nat) (i r k : Nat) : mixF ys i r k i k = bF ys i k := by simp [bF, mixF]
theorem mixF_at2 (ys : List Nat) {i r : Nat} (k l : Nat) (h : r ≠ i) : mixF ys i r k r l = bF ys r l := by simp [bF, mixF, h]
theorem BM.mixS {ys : List Nat} {i r k : Nat} (h : BM w0 W A E C n (fun j l => if j = i ∧ l = k then (bF ys i k != bF ys r k) else mixF ys i r k j l)) : BM w0 W A E C n (mixF ys i r (k + 1)) := h.congr fun j l _ _ => by
  unfold mixF bF
  by_cases e : j = i
  · subst e
    by_cases e2 : l = k
    · subst e2; simp
    · by_cases e3 : l < k
      · rw [if_neg (by simp [e2]), if_pos ⟨rfl, e3⟩, if_pos ⟨rfl, by omega⟩]
      · rw [if_neg (by simp [e2]), if_neg (by simp [e3]), if_neg (by simp; omega)]
  · rw [if_neg (by simp [e]), if_neg (by simp [e]), if_neg (by simp [e])]
theorem BM.mixE {ys : List Nat} {i r : Nat} (hi : i < ys.length) (h : BM w0 W A E C n (mixF ys i r C)) : BM w0 W A E C n (bF (ys.set i (ys.getD i 0 ^^^ ys.getD r 0))) := h.congr fun j l _ hl => by
  unfold mixF bF
  rw [getD_set _ _ _ _ hi]
  by_cases e : j = i
  · subst e
    rw [if_pos ⟨rfl, hl⟩, if_pos rfl, Nat.testBit_xor]
  · rw [if_neg (by simp [e]), if_neg (fun h => e h.symm)]
theorem BM.swapE {ys : List Nat} {p r : Nat} (hp : p < ys.length) (hr : r < ys.length) (h : BM w0 W A E C n (fun j => if r = j then bF ys p else if p = j then bF ys r else bF ys j)) : BM w0 W A E C n (bF ((ys.set p (ys.getD r 0)).set r (ys.getD p 0))) := h.congr fun j l _ hl => by
  unfold bF
  rw [getD_set _ _ _ _ (by rw [List.length_set]; exact hr), getD_set _ _ _ _ hp]
  split
  · rfl
  · split
    · rfl
    · rfl
end Go.Proofs.Ytlgiponfcmeiiaa
