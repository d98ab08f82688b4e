/- Plain law: what Factor and prime compute: the two parts at a cut, the prime factors. -/
import Derived.Test.YtmjoijfafachhaaCutW
import Derived.Test.YtmjoijfafachhaaConE
import Derived.Test.YtmjoijfafachhaaSplW
namespace Go.Proofs.Ytmjoijfafachhaa
open Go Go.RowKit
/-- The last group that holds c. -/
def selG (gs : List (List Nat)) (c : Nat) : List Nat := gs.foldl (fun acc g => if c ∈ g then g else acc) []
theorem selG_take {gs : List (List Nat)} {i : Nat} (c : Nat) (h : i < gs.length) : selG (gs.take (i + 1)) c = if c ∈ gs.getD i [] then gs.getD i [] else selG (gs.take i) c := by
  unfold selG
  rw [List.take_add_one, getD_some (d := []) h, List.foldl_append]
  rfl
theorem selG_acc (c : Nat) (G : List Nat) : ∀ (gs : List (List Nat)) (acc : List Nat), (∀ g ∈ gs, c ∈ g → g = G) → (acc = G ∨ ∃ g ∈ gs, c ∈ g) → gs.foldl (fun acc g => if c ∈ g then g else acc) acc = G
  | [], acc, _, h => by
    rcases h with h | ⟨g, hg, _⟩
    · exact h
    · simp at hg
  | g :: gs, acc, h1, h2 => by
    show gs.foldl _ (if c ∈ g then g else acc) = G
    refine selG_acc c G gs _ (fun u hu => h1 u (List.mem_cons_of_mem _ hu)) ?_
    by_cases hc : c ∈ g
    · rw [if_pos hc]; exact .inl (h1 g List.mem_cons_self hc)
    · rw [if_neg hc]
      rcases h2 with h | ⟨u, hu, hcu⟩
      · exact .inl h
      · rcases List.mem_cons.1 hu with e | e
        · subst e; exact absurd hcu hc
        · exact .inr ⟨u, e, hcu⟩
theorem clsN_eq {M : List Int} {n c d : Nat} (hm : MateOk M n) (hc : c < n) (h : Conn M c d) : clsN M n c = clsN M n d := by
  unfold clsN
  refine List.filter_congr fun u hu => ?_
  have e : Conn M c u ↔ Conn M d u := ⟨fun k => (hm.conn_symm hc h).trans k, fun k => h.trans k⟩
  rw [show Conn M c u = Conn M d u from propext e]
theorem grp_of {M : List Int} {n c : Nat} (hm : MateOk M n) (_ : c < n) {g : List Nat} (hg : g ∈ grpOf M n) (h : c ∈ g) : g = clsN M n c := by
  obtain ⟨l, hl, rfl⟩ := List.mem_map.1 hg
  exact clsN_eq hm (mem_leadsN.1 hl).1 (mem_clsN.1 h).2
theorem grp_has {M : List Int} {n : Nat} (hm : MateOk M n) : ∀ c, c < n → clsN M n c ∈ grpOf M n := fun c hc => by
  obtain ⟨l, hl, h1, h2⟩ : ∃ l, l < n ∧ Conn M l c ∧ ∀ d, d < l → ¬ Conn M d l := by
    have key : ∀ k, k ≤ n → (∃ l, l < k ∧ Conn M l c) → ∃ l, l < n ∧ Conn M l c ∧ ∀ d, d < l → ¬ Conn M d l := fun k => by
      induction k with
      | zero => rintro _ ⟨l, h, _⟩; omega
      | succ k ih =>
        rintro hk ⟨l, h, g⟩
        by_cases e : ∃ l, l < k ∧ Conn M l c
        · exact ih (by omega) e
        · have : l = k := by
            rcases Nat.lt_or_ge l k with u | u
            · exact absurd ⟨l, u, g⟩ e
            · omega
          subst this
          exact ⟨l, by omega, g, fun d hd q => e ⟨d, hd, q.trans g⟩⟩
    exact key n (Nat.le_refl _) ⟨c, hc, Conn.refl M c⟩
  exact List.mem_map.2 ⟨l, mem_leadsN.2 ⟨hl, h2⟩, clsN_eq hm hl h1⟩
theorem cls_self {M : List Int} {n c : Nat} (hc : c < n) : c ∈ clsN M n c := mem_clsN.2 ⟨hc, Conn.refl M c⟩
theorem selG_grp {M : List Int} {n c : Nat} (hm : MateOk M n) (hc : c < n) : selG (grpOf M n) c = clsN M n c :=
  selG_acc c _ _ _ (fun _ hg h => grp_of hm hc hg h) (.inr ⟨_, grp_has hm c hc, cls_self hc⟩)
/-- The part of a crossing. -/
noncomputable def ptD (S M : List Int) (c : Nat) : Dgm := (partS S (clsN M S.length c), partM M (clsN M S.length c), 0)
/-- What Factor gives. -/
noncomputable def facA (S M : List Int) (x y : Nat) : Dgm := ptD S (crossL M x y) (x / 4)
noncomputable def facB (S M : List Int) (x y : Nat) : Dgm := ptD S (crossL M x y) (y / 4)
/-- Prime factors, to a depth. -/
noncomputable def primeN : Nat → List Int → List Int → Int → List Dgm
  | 0, S, M, L => [(S, M, L)]
  | k + 1, S, M, L => match cutsL S M with
    | [] => [(S, M, L)]
    | p :: _ => primeN k (facA S M p.1 p.2).1 (facA S M p.1 p.2).2.1 (facA S M p.1 p.2).2.2 ++ primeN k (facB S M p.1 p.2).1 (facB S M p.1 p.2).2.1 (facB S M p.1 p.2).2.2
noncomputable def primeL (S M : List Int) (L : Int) : List Dgm := primeN S.length S M L
/-- .. of a list. -/
noncomputable def primesL (ds : List Dgm) : List Dgm := ds.flatMap fun d => primeL d.1 d.2.1 d.2.2
noncomputable def factorsL (S M : List Int) (L : Int) : List Dgm := primesL (splitL S M L)
section
variable {S M : List Int} {L : Int} (hv : vldB S M L = true)
include hv
theorem cutB_iff {x y : Nat} (hx : x < 4 * S.length) (hy : y < 4 * S.length) : cutB S (leftL M S.length) M x y = true ↔ outB S x = true ∧ outB S y = true ∧ OnOrb (fc M) x y ∧ OnOrb (fc M) (mt M x) (mt M y) := by
  obtain ⟨hs, _⟩ := vldB_iff.1 hv
  have hm := hs.mates2
  have h1 := left_iff hm hx hy
  have h2 := left_iff hm (hm.lt hx) (hm.lt hy)
  unfold cutB leftL
  simp only [Bool.and_eq_true, beq_iff_eq, h1, h2, and_assoc]
omit hv in
theorem mem_cutRow {F : List Int} {x y : Nat} {p : Nat × Nat} : p ∈ cutRow S F M x y ↔ p.1 = x ∧ x < p.2 ∧ p.2 < y ∧ cutB S F M x p.2 = true := by
  unfold cutRow
  rw [List.mem_map]
  constructor
  · rintro ⟨z, hz, rfl⟩
    rw [List.mem_filter, List.mem_range, Bool.and_eq_true, decide_eq_true_iff] at hz
    exact ⟨rfl, hz.2.1, hz.1, hz.2.2⟩
  · rintro ⟨h1, h2, h3, h4⟩
    refine ⟨p.2, ?_, by rw [← h1]⟩
    rw [List.mem_filter, List.mem_range, Bool.and_eq_true, decide_eq_true_iff]
    exact ⟨h3, h2, h4⟩
omit hv in
theorem mem_cutTo {F : List Int} {N : Nat} {p : Nat × Nat} : ∀ k, p ∈ cutTo S F M N k ↔ p.1 < k ∧ p.1 < p.2 ∧ p.2 < N ∧ cutB S F M p.1 p.2 = true := fun k => by
  induction k with
  | zero => simp [cutTo]
  | succ k ih =>
    show p ∈ cutTo S F M N k ++ cutRow S F M k N ↔ _
    rw [List.mem_append, ih, mem_cutRow]
    constructor
    · rintro (⟨h1, h2⟩ | ⟨h1, h2, h3, h4⟩)
      · exact ⟨by omega, h2⟩
      · subst h1; exact ⟨by omega, h2, h3, h4⟩
    · rintro ⟨h1, h2, h3, h4⟩
      rcases Nat.lt_or_ge p.1 k with u | u
      · exact .inl ⟨u, h2, h3, h4⟩
      · obtain rfl : p.1 = k := by omega
        exact .inr ⟨rfl, h2, h3, h4⟩
theorem mem_cuts {p : Nat × Nat} : p ∈ cutsL S M ↔ p.1 < p.2 ∧ p.2 < 4 * S.length ∧ outB S p.1 = true ∧ outB S p.2 = true ∧ OnOrb (fc M) p.1 p.2 ∧ OnOrb (fc M) (mt M p.1) (mt M p.2) := by
  unfold cutsL
  rw [mem_cutTo]
  constructor
  · rintro ⟨h1, h2, h3, h4⟩
    exact ⟨h2, h3, (cutB_iff hv h1 h3).1 h4⟩
  · rintro ⟨h2, h3, h4⟩
    exact ⟨by omega, h2, h3, (cutB_iff hv (by omega) h3).2 h4⟩
/-- The parts at a cut. -/
theorem fac_good {x y : Nat} (hx : x < 4 * S.length) (hy : y < 4 * S.length) (hox : outB S x = true) (hoy : outB S y = true) (hxy : x ≠ y) (h1 : OnOrb (fc M) x y) (h2 : OnOrb (fc M) (mt M x) (mt M y)) :
    vldB S (crossL M x y) L = true ∧ vldB (facA S M x y).1 (facA S M x y).2.1 0 = true ∧ vldB (facB S M x y).1 (facB S M x y).2.1 0 = true ∧ (facA S M x y).1.length < S.length ∧ (facB S M x y).1.length < S.length := by
  obtain ⟨hv', hno⟩ := cut_sph hv hx hy hox hoy hxy h1 h2
  obtain ⟨hs', _⟩ := vldB_iff.1 hv'
  have hm' := hs'.mates2.ok
  have key : ∀ (c d : Nat), c < S.length → d < S.length → ¬ Conn (crossL M x y) c d → vldB (ptD S (crossL M x y) c).1 (ptD S (crossL M x y) c).2.1 0 = true ∧ (ptD S (crossL M x y) c).1.length < S.length := fun c d hc hd hn => by
    refine ⟨part_valid hv' (whole_cls hm' c) (Int.le_refl _) (by omega), ?_⟩
    show (partS S (clsN (crossL M x y) S.length c)).length < S.length
    rw [partS_len]
    unfold clsN
    have h3 := List.length_filter_lt_length_iff_exists (l := List.range S.length) (p := fun u => okC (Conn (crossL M x y) c u))
    rw [List.length_range] at h3
    refine h3.2 ⟨d, List.mem_range.2 hd, fun e => hn (okC_iff.1 e)⟩
  have a := key (x / 4) (y / 4) (by omega) (by omega) hno
  have b := key (y / 4) (x / 4) (by omega) (by omega) (fun h => hno (hm'.conn_symm (by omega) h))
  exact ⟨hv', a.1, b.1, a.2, b.2⟩
theorem fac_cuts {p : Nat × Nat} (hp : p ∈ cutsL S M) : vldB S (crossL M p.1 p.2) L = true ∧ vldB (facA S M p.1 p.2).1 (facA S M p.1 p.2).2.1 0 = true ∧ vldB (facB S M p.1 p.2).1 (facB S M p.1 p.2).2.1 0 = true ∧ (facA S M p.1 p.2).1.length < S.length ∧ (facB S M p.1 p.2).1.length < S.length := by
  obtain ⟨h1, h2, h3, h4, h5, h6⟩ := (mem_cuts hv).1 hp
  exact fac_good hv (by omega) h2 h3 h4 (by omega) h5 h6
end
theorem primeN_none {S M : List Int} {L : Int} (h : cutsL S M = []) (k : Nat) : primeN k S M L = [(S, M, L)] := by
  cases k with
  | zero => rfl
  | succ k => show (match cutsL S M with | [] => _ | p :: _ => _) = _; rw [h]
theorem primeN_cons {S M : List Int} {L : Int} {p : Nat × Nat} {l : List (Nat × Nat)} (h : cutsL S M = p :: l) (k : Nat) : primeN (k + 1) S M L = primeN k (facA S M p.1 p.2).1 (facA S M p.1 p.2).2.1 0 ++ primeN k (facB S M p.1 p.2).1 (facB S M p.1 p.2).2.1 0 := by
  show (match cutsL S M with | [] => _ | p :: _ => _) = _
  rw [h]; rfl
theorem fac_cuts0 {S M : List Int} {L : Int} (hv : vldB S M L = true) {p : Nat × Nat} {l : List (Nat × Nat)} (h : cutsL S M = p :: l) : vldB S (crossL M p.1 p.2) L = true ∧ vldB (facA S M p.1 p.2).1 (facA S M p.1 p.2).2.1 0 = true ∧ vldB (facB S M p.1 p.2).1 (facB S M p.1 p.2).2.1 0 = true ∧ (facA S M p.1 p.2).1.length < S.length ∧ (facB S M p.1 p.2).1.length < S.length := fac_cuts hv (by rw [h]; exact List.mem_cons_self)
/-- The depth does not matter once it is great enough. -/
theorem primeN_deep : ∀ (n : Nat) (S M : List Int) (L : Int), S.length ≤ n → vldB S M L = true → ∀ k j, S.length ≤ k → S.length ≤ j → primeN k S M L = primeN j S M L := fun n => by
  induction n with
  | zero =>
    intro S M L hn hv k j _ _
    have : cutsL S M = [] := by
      cases h : cutsL S M with
      | nil => rfl
      | cons p l => have := (fac_cuts0 hv h).2.2.2.1; omega
    rw [primeN_none this, primeN_none this]
  | succ n ih =>
    intro S M L hn hv k j hk hj
    cases h : cutsL S M with
    | nil => rw [primeN_none h, primeN_none h]
    | cons p l =>
      obtain ⟨_, va, vb, la, lb⟩ := fac_cuts0 hv h
      obtain ⟨k, rfl⟩ : ∃ k', k = k' + 1 := ⟨k - 1, by omega⟩
      obtain ⟨j, rfl⟩ : ∃ j', j = j' + 1 := ⟨j - 1, by omega⟩
      rw [primeN_cons h, primeN_cons h, ih _ _ _ (by omega) va k j (by omega) (by omega), ih _ _ _ (by omega) vb k j (by omega) (by omega)]
theorem primeL_none {S M : List Int} {L : Int} (h : cutsL S M = []) : primeL S M L = [(S, M, L)] := primeN_none h _
theorem primeL_cons {S M : List Int} {L : Int} (hv : vldB S M L = true) {p : Nat × Nat} {l : List (Nat × Nat)} (h : cutsL S M = p :: l) : primeL S M L = primeL (facA S M p.1 p.2).1 (facA S M p.1 p.2).2.1 0 ++ primeL (facB S M p.1 p.2).1 (facB S M p.1 p.2).2.1 0 := by
  obtain ⟨_, va, vb, la, lb⟩ := fac_cuts0 hv h
  obtain ⟨k, hk⟩ : ∃ k', S.length = k' + 1 := ⟨S.length - 1, by omega⟩
  unfold primeL
  rw [hk, primeN_cons h, primeN_deep _ _ _ _ (Nat.le_refl _) va k (facA S M p.1 p.2).1.length (by omega) (Nat.le_refl _), primeN_deep _ _ _ _ (Nat.le_refl _) vb k (facB S M p.1 p.2).1.length (by omega) (Nat.le_refl _)]
end Go.Proofs.Ytmjoijfafachhaa
