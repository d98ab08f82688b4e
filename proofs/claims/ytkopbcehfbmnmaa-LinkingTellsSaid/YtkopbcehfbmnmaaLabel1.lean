/- Plain law: diagram.label gives two crossings the same number just if they are connected. -/
import Derived.Test.YtkopbcehfbmnmaaValid0
namespace Go.Proofs.Ytkopbcehfbmnmaa
open Go Go.RowKit
/-- A half-edge of c has its mate at d. -/
def Adj (M : List Int) (c d : Nat) : Prop := ∃ s, s < 4 ∧ (nth M (4 * c + s)).toNat / 4 = d
/-- d is in every set that holds c and, with a crossing, all its neighbours. -/
def Conn (M : List Int) (c d : Nat) : Prop := ∀ Q : Nat → Prop, Q c → (∀ x y, Q x → Adj M x y → Q y) → Q d
theorem Conn.refl (M : List Int) (c : Nat) : Conn M c c := fun _ h _ => h
theorem Conn.trans {M : List Int} {a b c : Nat} (h1 : Conn M a b) (h2 : Conn M b c) : Conn M a c := fun Q h hs => h2 Q (h1 Q h hs) hs
theorem Conn.adj {M : List Int} {a b : Nat} (h : Adj M a b) : Conn M a b := fun _ ha hs => hs a b ha h
theorem Conn.step {M : List Int} {a b c : Nat} (h1 : Conn M a b) (h : Adj M b c) : Conn M a c := h1.trans (Conn.adj h)
/-- Mates are in order: all that connectivity wants. -/
structure MateOk (M : List Int) (n : Nat) : Prop where
  lt : ∀ h, h < 4 * n → 0 ≤ nth M h ∧ nth M h < 4 * (n : Int)
  inv : ∀ h, h < 4 * n → nth M (nth M h).toNat = (h : Int)
theorem Shape.mates {S M : List Int} {L : Int} (hs : Shape S M L) : MateOk M S.length := ⟨hs.range, fun h hh => (hs.mate h hh).2.2.2.1⟩
namespace MateOk
variable {M : List Int} {n : Nat} (hm : MateOk M n)
include hm
theorem adj_lt {c d : Nat} (hc : c < n) (h : Adj M c d) : d < n := by
  obtain ⟨s, hs, rfl⟩ := h
  have := hm.lt (4 * c + s) (by omega)
  omega
theorem adj_symm {c d : Nat} (hc : c < n) (h : Adj M c d) : Adj M d c := by
  obtain ⟨s, hs, rfl⟩ := h
  have h1 := hm.lt (4 * c + s) (by omega)
  have h2 := hm.inv (4 * c + s) (by omega)
  refine ⟨(nth M (4 * c + s)).toNat % 4, by omega, ?_⟩
  rw [Nat.div_add_mod, h2]
  omega
theorem conn_lt {c d : Nat} (hc : c < n) (h : Conn M c d) : d < n := h (· < n) hc fun _ _ hx ha => hm.adj_lt hx ha
theorem conn_symm {c d : Nat} (hc : c < n) (h : Conn M c d) : Conn M d c := by
  refine (h (fun x => x < n ∧ Conn M x c) ⟨hc, Conn.refl M c⟩ ?_).2
  rintro x y ⟨hx, hxc⟩ ha
  exact ⟨hm.adj_lt hx ha, (Conn.adj (hm.adj_symm hx ha)).trans hxc⟩
end MateOk
/-- How many entries are negative. -/
def negs (l : List Int) : Nat := l.countP (· < 0)
theorem negs_set_neg (l : List Int) (i : Nat) (x : Int) (hi : i < l.length) (h : nth l i < 0) (hx : 0 ≤ x) : negs (l.set i x) + 1 = negs l := by
  have hl : l[i] < 0 := by simpa [nth, hi] using h
  have hpos : 0 < l.countP (· < 0) := List.countP_pos_iff.2 ⟨l[i], List.getElem_mem hi, by simpa using hl⟩
  unfold negs
  rw [List.countP_set hi]
  have : ¬ x < 0 := by omega
  simp [hl, this]
  omega
theorem negs_le (l : List Int) : negs l ≤ l.length := List.countP_le_length
/-- What holds while a component is numbered p from the crossing r: 'base' is the list as it was before. -/
structure LbInv (M : List Int) (n : Nat) (p : Int) (r : Nat) (base : List Int) (st : List Int × List Int) : Prop where
  len : st.1.length = n
  qin : ∀ x ∈ st.2, ∃ c : Nat, x = (c : Int) ∧ c < n ∧ nth st.1 c = p
  old : ∀ d, d < n → 0 ≤ nth base d → nth st.1 d = nth base d
  new : ∀ d, d < n → nth st.1 d = nth base d ∨ (nth st.1 d = p ∧ Conn M r d)
/-- The labels that stand already: below p; whole components. -/
structure LbBase (M : List Int) (n : Nat) (p : Int) (base : List Int) : Prop where
  len : base.length = n
  lt : ∀ d, d < n → nth base d < p
  closed : ∀ c d, c < n → Adj M c d → 0 ≤ nth base c → nth base d = nth base c
theorem LbInv.visit {M : List Int} {n : Nat} {p : Int} {r : Nat} {base : List Int} {st : List Int × List Int} (hm : MateOk M n) (hp : 0 ≤ p) (h : LbInv M n p r base st)
    (x s : Nat) (hx : x < n) (hs : s < 4) (hxr : Conn M r x) : LbInv M n p r base (lbVisit M p (x : Int) s st) ∧ negs (lbVisit M p (x : Int) s st).1 + (lbVisit M p (x : Int) s st).2.length = negs st.1 + st.2.length ∧
      (∀ y ∈ st.2, y ∈ (lbVisit M p (x : Int) s st).2) ∧ (∀ d, d < n → 0 ≤ nth st.1 d → nth (lbVisit M p (x : Int) s st).1 d = nth st.1 d) ∧
      0 ≤ nth (lbVisit M p (x : Int) s st).1 ((nth M (4 * x + s)).toNat / 4) ∧
      (∀ c, c < n → nth (lbVisit M p (x : Int) s st).1 c = p → nth st.1 c = p ∨ (c : Int) ∈ (lbVisit M p (x : Int) s st).2) := by
  have h1 := hm.lt (4 * x + s) (by omega)
  have ha : Adj M x ((nth M (4 * x + s)).toNat / 4) := ⟨s, hs, rfl⟩
  have hlt := hm.adj_lt hx ha
  have e : (nth M (4 * ((x : Nat) : Int).toNat + s) / 4) = (((nth M (4 * x + s)).toNat / 4 : Nat) : Int) := by rw [Int.toNat_natCast]; omega
  unfold lbVisit
  rw [e, Int.toNat_natCast]
  generalize hd : (nth M (4 * x + s)).toNat / 4 = d at *
  by_cases hneg : nth st.1 d < 0
  · rw [if_pos hneg]
    have hdl : d < st.1.length := by rw [h.len]; exact hlt
    have hset := fun j => nth_set st.1 d j p hdl
    refine ⟨⟨by simpa using h.len, ?_, ?_, ?_⟩, ?_, ?_, ?_, ?_, ?_⟩
    · intro y hy
      simp only [List.mem_append, List.mem_singleton] at hy
      rcases hy with hy | rfl
      · obtain ⟨c, rfl, hc, hpc⟩ := h.qin y hy
        refine ⟨c, rfl, hc, ?_⟩
        simp only
        rw [hset]
        split
        · rfl
        · exact hpc
      · refine ⟨d, rfl, hlt, ?_⟩
        simp only
        rw [hset, if_pos rfl]
    · intro j hj hbj
      simp only
      rw [hset]
      split
      · rename_i hdj
        subst hdj
        have := h.old d hj hbj
        omega
      · exact h.old j hj hbj
    · intro j hj
      simp only
      rw [hset]
      split
      · rename_i hdj
        subst hdj
        exact .inr ⟨rfl, hxr.step ha⟩
      · exact h.new j hj
    · simp only [List.length_append, List.length_singleton]
      have := negs_set_neg st.1 d p hdl hneg hp
      omega
    · intro y hy; simp only [List.mem_append]; exact .inl hy
    · intro j hj hnn
      simp only
      rw [hset]
      split
      · rename_i hdj
        subst hdj
        omega
      · rfl
    · simp only
      rw [hset, if_pos rfl]; exact hp
    · intro c hc hcp
      simp only at hcp ⊢
      rw [hset] at hcp
      split at hcp
      · rename_i hdc
        subst hdc
        exact .inr (by simp)
      · exact .inl hcp
  · rw [if_neg hneg]
    exact ⟨h, rfl, fun _ hy => hy, fun _ _ _ => rfl, by omega, fun c _ hcp => .inl hcp⟩
theorem LbInv.slots {M : List Int} {n : Nat} {p : Int} {r : Nat} {base : List Int} {st : List Int × List Int} (hm : MateOk M n) (hp : 0 ≤ p) (h : LbInv M n p r base st)
    (x k : Nat) (hx : x < n) (hk : k ≤ 4) (hxr : Conn M r x) : LbInv M n p r base (lbSlots M p (x : Int) k st) ∧ negs (lbSlots M p (x : Int) k st).1 + (lbSlots M p (x : Int) k st).2.length = negs st.1 + st.2.length ∧
      (∀ y ∈ st.2, y ∈ (lbSlots M p (x : Int) k st).2) ∧ (∀ d, d < n → 0 ≤ nth st.1 d → nth (lbSlots M p (x : Int) k st).1 d = nth st.1 d) ∧
      (∀ s, s < k → 0 ≤ nth (lbSlots M p (x : Int) k st).1 ((nth M (4 * x + s)).toNat / 4)) ∧
      (∀ c, c < n → nth (lbSlots M p (x : Int) k st).1 c = p → nth st.1 c = p ∨ (c : Int) ∈ (lbSlots M p (x : Int) k st).2) := by
  induction k with
  | zero => exact ⟨h, rfl, fun _ hy => hy, fun _ _ _ => rfl, fun s hs => by omega, fun c _ hcp => .inl hcp⟩
  | succ k ih =>
    obtain ⟨i1, i2, i3, i4, i5, i6⟩ := ih (by omega)
    obtain ⟨j1, j2, j3, j4, j5, j6⟩ := i1.visit hm hp x k hx (by omega) hxr
    rw [lbSlots]
    refine ⟨j1, by omega, fun y hy => j3 y (i3 y hy), ?_, ?_, ?_⟩
    · intro d hd hnn
      rw [j4 d hd (by rw [i4 d hd hnn]; exact hnn), i4 d hd hnn]
    · intro s hs
      rcases Nat.lt_or_ge s k with h2 | h2
      · have h3 := i5 s h2
        have hlt := hm.adj_lt hx ⟨s, by omega, rfl⟩
        rw [j4 _ hlt h3]; exact h3
      · obtain rfl : s = k := by omega
        exact j5
    · intro c hc hcp
      rcases j6 c hc hcp with h2 | h2
      · rcases i6 c hc h2 with h3 | h3
        · exact .inl h3
        · exact .inr (j3 _ h3)
      · exact .inr h2
/-- The queue worked off. -/
theorem LbInv.queue {M : List Int} {n : Nat} {p : Int} {r : Nat} {base : List Int} (hm : MateOk M n) (hp : 0 ≤ p) (hb : LbBase M n p base) :
    ∀ (g : Nat) (st : List Int × List Int), LbInv M n p r base st → negs st.1 + st.2.length ≤ g → (∀ c, c < n → nth st.1 c = p → (c : Int) ∈ st.2 ∨ ∀ d, Adj M c d → 0 ≤ nth st.1 d) → (∀ x ∈ st.2, ∀ c : Nat, x = (c : Int) → Conn M r c) →
    ∃ part, lbQueue M p g st = some part ∧ LbInv M n p r base (part, []) ∧ (∀ c, c < n → nth part c = p → ∀ d, Adj M c d → 0 ≤ nth part d) ∧ (∀ d, d < n → 0 ≤ nth st.1 d → nth part d = nth st.1 d) := by
  intro g
  induction g with
  | zero =>
    rintro ⟨part, q⟩ h hg hdone hq
    cases q with
    | nil => exact ⟨part, by simp [lbQueue], h, fun c hc hcp d hd => by simpa using (hdone c hc hcp).resolve_left (by simp) d hd, fun _ _ _ => rfl⟩
    | cons x q => simp at hg
  | succ g ih =>
    rintro ⟨part, q⟩ h hg hdone hq
    cases q with
    | nil => exact ⟨part, by simp [lbQueue], h, fun c hc hcp d hd => by simpa using (hdone c hc hcp).resolve_left (by simp) d hd, fun _ _ _ => rfl⟩
    | cons x q =>
      obtain ⟨c, rfl, hc, hpc⟩ := h.qin x (by simp)
      have hrc := hq _ (by simp) c rfl
      have h' : LbInv M n p r base (part, q) := ⟨h.len, fun y hy => h.qin y (List.mem_cons_of_mem _ hy), h.old, h.new⟩
      obtain ⟨i1, i2, i3, i4, i5, i6⟩ := h'.slots hm hp c 4 hc (Nat.le_refl _) hrc
      simp only [List.length_cons] at hg
      simp only at i2 i4 i6 hdone
      have hA : ∀ b, b < n → nth (lbSlots M p (c : Int) 4 (part, q)).1 b = p → (b : Int) ∈ (lbSlots M p (c : Int) 4 (part, q)).2 ∨ ∀ d, Adj M b d → 0 ≤ nth (lbSlots M p (c : Int) 4 (part, q)).1 d := by
        intro b hbn hbp
        rcases i6 b hbn hbp with h2 | h2
        · rcases hdone b hbn h2 with h3 | h3
          · simp only [List.mem_cons] at h3
            rcases h3 with h3 | h3
            · have : b = c := by omega
              subst this
              refine .inr fun d hd => ?_
              obtain ⟨s, hs, rfl⟩ := hd
              exact i5 s hs
            · exact .inl (i3 _ h3)
          · refine .inr fun d hd => ?_
            have := h3 d hd
            rw [i4 d (hm.adj_lt hbn hd) this]; exact this
        · exact .inl h2
      have hB : ∀ y ∈ (lbSlots M p (c : Int) 4 (part, q)).2, ∀ b : Nat, y = (b : Int) → Conn M r b := by
        intro y hy b hyb
        subst hyb
        obtain ⟨b', hb', hbn, hbp⟩ := i1.qin _ hy
        have : b = b' := by omega
        subst this
        rcases i1.new b hbn with h2 | h2
        · have := hb.lt b hbn
          omega
        · exact h2.2
      obtain ⟨part', k1, k2, k3, k4⟩ := ih _ i1 (by omega) hA hB
      refine ⟨part', by rw [lbQueue]; exact k1, k2, k3, fun d hd hnn => ?_⟩
      rw [k4 d hd (by rw [i4 d hd hnn]; exact hnn), i4 d hd hnn]
/-- What holds after c rounds of the outer loop. -/
structure LbOut (M : List Int) (n c : Nat) (st : List Int × Int) : Prop where
  base : LbBase M n st.2 st.1
  lo : 0 ≤ st.2
  hi : st.2 ≤ c
  neg : ∀ d, d < n → -1 ≤ nth st.1 d
  seen : ∀ d, d < c → 0 ≤ nth st.1 d
  conn : ∀ a b, a < n → b < n → 0 ≤ nth st.1 a → nth st.1 a = nth st.1 b → Conn M a b
  hit : ∀ q : Nat, (q : Int) < st.2 → ∃ d, d < n ∧ nth st.1 d = q
theorem LbOut.round {M : List Int} {n c : Nat} {st : List Int × Int} (hm : MateOk M n) (h : LbOut M n c st) (hc : c < n) (hn : n ≤ 1000) : ∃ st', lbRound M 1000000 c st = some st' ∧ LbOut M n (c + 1) st' := by
  unfold lbRound
  by_cases hneg : 0 ≤ nth st.1 c
  · rw [if_pos hneg]
    refine ⟨st, rfl, h.base, h.lo, by have := h.hi; omega, h.neg, fun d hd => ?_, h.conn, h.hit⟩
    rcases Nat.lt_or_ge d c with h2 | h2
    · exact h.seen d h2
    · obtain rfl : d = c := by omega
      exact hneg
  · rw [if_neg hneg]
    have hlen := h.base.len
    have hset := fun j => nth_set st.1 c j st.2 (by rw [hlen]; exact hc)
    have hinv : LbInv M n st.2 c st.1 (st.1.set c st.2, [(c : Int)]) := by
      refine ⟨by simpa using hlen, ?_, ?_, ?_⟩
      · intro x hx
        simp only [List.mem_singleton] at hx
        subst hx
        exact ⟨c, rfl, hc, by simp only; rw [hset, if_pos rfl]⟩
      · intro d hd hnn
        simp only
        rw [hset]
        split
        · rename_i e; subst e; omega
        · rfl
      · intro d hd
        simp only
        rw [hset]
        split
        · rename_i e; subst e; exact .inr ⟨rfl, Conn.refl M c⟩
        · exact .inl rfl
    have hng : negs (st.1.set c st.2) + 1 ≤ 1000000 := by
      have := negs_le (st.1.set c st.2)
      rw [List.length_set, hlen] at this
      omega
    obtain ⟨part, k1, k2, k3, k4⟩ := LbInv.queue hm h.lo h.base 1000000 _ hinv (by simpa using hng) (by
        intro b hb hbp
        simp only at hbp ⊢
        rw [hset] at hbp
        split at hbp
        · rename_i e; subst e; exact .inl (by simp)
        · have := h.base.lt b hb; omega) (by
        intro x hx b hxb
        simp only [List.mem_singleton] at hx
        have : b = c := by omega
        subst this
        exact Conn.refl M _)
    rw [k1]
    refine ⟨_, rfl, ?_⟩
    have hcp : nth part c = st.2 := by
      rw [k4 c hc (by simp only; rw [hset, if_pos rfl]; exact h.lo)]
      simp only
      rw [hset, if_pos rfl]
    have hconnp : ∀ d, d < n → nth part d = st.2 → Conn M c d := fun d hd hdp => by
      rcases k2.new d hd with h2 | h2
      · have := h.base.lt d hd
        simp only at h2
        omega
      · exact h2.2
    refine ⟨⟨k2.len, ?_, ?_⟩, by have := h.lo; simp only; omega, by have := h.hi; simp only; omega, ?_, ?_, ?_, ?_⟩
    · intro d hd
      simp only
      rcases k2.new d hd with h2 | h2
      · have := h.base.lt d hd
        simp only at h2
        omega
      · have := h2.1
        simp only at this
        omega
    · intro a b ha hab hnn
      simp only at hnn ⊢
      have hb := hm.adj_lt ha hab
      rcases k2.new a ha with h2 | h2
      · simp only at h2
        have h3 := h.base.closed a b ha hab (by omega)
        have h4 := k2.old b hb (by omega)
        simp only at h4
        omega
      · have h2' := h2.1
        simp only at h2'
        have h3 := k3 a ha h2' b hab
        rcases k2.new b hb with h4 | h4
        · simp only at h4
          have h5 := h.base.closed b a hb (hm.adj_symm ha hab) (by omega)
          have h6 := k2.old a ha (by omega)
          have h7 := h.base.lt b hb
          simp only at h6
          omega
        · have := h4.1
          simp only at this
          omega
    · intro d hd
      simp only
      rcases k2.new d hd with h2 | h2
      · have := h.neg d hd
        simp only at h2
        omega
      · have := h2.1
        have := h.lo
        simp only at *
        omega
    · intro d hd
      simp only
      rcases Nat.lt_or_ge d c with h2 | h2
      · have h3 := h.seen d h2
        have h4 := k2.old d (by omega) h3
        simp only at h4
        omega
      · obtain rfl : d = c := by omega
        rw [hcp]; exact h.lo
    · intro a b ha hb hnn hab
      simp only at hnn hab
      by_cases hap : nth part a = st.2
      · exact (hm.conn_symm hc (hconnp a ha hap)).trans (hconnp b hb (by omega))
      · have h1 := (k2.new a ha).resolve_right (fun h => hap h.1)
        have h2 := (k2.new b hb).resolve_right (fun h => by have := h.1; simp only at this; omega)
        simp only at h1 h2
        exact h.conn a b ha hb (by omega) (by omega)
    · intro q hq
      simp only at hq ⊢
      by_cases e : (q : Int) = st.2
      · exact ⟨c, hc, by rw [hcp, e]⟩
      · obtain ⟨d, hd, he⟩ := h.hit q (by omega)
        refine ⟨d, hd, ?_⟩
        have := k2.old d hd (by omega)
        simp only at this
        omega
theorem LbOut.outer {M : List Int} {n : Nat} (hm : MateOk M n) (hn : n ≤ 1000) : ∀ (k c : Nat) (st : List Int × Int), LbOut M n c st → c + k = n → ∃ st', lbOuter M 1000000 k c st = some st' ∧ LbOut M n n st' := by
  intro k
  induction k with
  | zero =>
    intro c st h hc
    have e : c = n := by omega
    subst e
    exact ⟨st, rfl, h⟩
  | succ k ih =>
    intro c st h hc
    obtain ⟨st1, h1, h2⟩ := h.round hm (by omega) hn
    obtain ⟨st2, h3, h4⟩ := ih (c + 1) st1 h2 (by omega)
    exact ⟨st2, by rw [lbOuter, h1]; exact h3, h4⟩
/-- What label gives: numbers from 0 on, each taken, the same just at connected crossings. -/
structure Labels (M : List Int) (n : Nat) (part : List Int) (parts : Nat) : Prop where
  len : part.length = n
  range : ∀ c, c < n → 0 ≤ nth part c ∧ nth part c < (parts : Int)
  iff : ∀ a b, a < n → b < n → (nth part a = nth part b ↔ Conn M a b)
  hit : ∀ q, q < parts → ∃ d, d < n ∧ nth part d = (q : Int)
  le : parts ≤ n
theorem label_spec {M : List Int} {n : Nat} (hm : MateOk M n) (hn : n ≤ 1000) : ∃ part parts, lbOuter M 1000000 n 0 (List.replicate n (-1), 0) = some (part, ((parts : Nat) : Int)) ∧ Labels M n part parts := by
  have h0 : LbOut M n 0 (List.replicate n (-1), 0) := by
    have hr : ∀ d, d < n → nth (List.replicate n (-1 : Int)) d = -1 := fun d hd => nth_replicate n d (-1) hd
    refine ⟨⟨by simp, fun d hd => ?_, fun c d hc _ hnn => ?_⟩, Int.le_refl _, Int.le_refl _, fun d hd => ?_, fun d hd => by omega, fun a b ha _ hnn => ?_, fun q hq => ?_⟩
    · simp only; rw [hr d hd]; omega
    · simp only at hnn; rw [hr c hc] at hnn; omega
    · simp only; rw [hr d hd]; omega
    · simp only at hnn; rw [hr a ha] at hnn; omega
    · simp only at hq; omega
  obtain ⟨⟨part, ps⟩, h1, h2⟩ := LbOut.outer hm hn n 0 _ h0 (by omega)
  have hlo := h2.lo
  have hhi := h2.hi
  simp only at hlo hhi
  have hseen := h2.seen
  have hclosed := h2.base.closed
  refine ⟨part, ps.toNat, ?_, h2.base.len, fun c hc => ?_, fun a b ha hb => ⟨fun e => h2.conn a b ha hb (hseen a ha) e, fun hab => ?_⟩, fun q hq => ?_, by omega⟩
  · rw [h1, show ((ps.toNat : Nat) : Int) = ps from by omega]
  · have h3 := hseen c hc
    have h4 := h2.base.lt c hc
    simp only at h3 h4
    omega
  · refine (hab (fun x => x < n ∧ nth part x = nth part a) ⟨ha, rfl⟩ ?_).2.symm
    rintro x y ⟨hx, he⟩ hxy
    exact ⟨hm.adj_lt hx hxy, by have := hclosed x y hx hxy (hseen x hx); simp only at this; omega⟩
  · exact h2.hit q (by simp only; omega)
end Go.Proofs.Ytkopbcehfbmnmaa
