/- The walk of the reference's Smooth; what its loops compute. -/
import Derived.Test.YtkopbcehfbmnmaaSmoothC
import Derived.Test.YtkopbcehfbmnmaaRTab
import Derived.Test.YtkopbcehfbmnmaaSmoW
import Derived.Test.YtkopbcehfbmnmaaRSwW
import Derived.Deep.DeepCutAuto
import Derived.Deep.RegionLaw
import Derived.Deep.RegionHeld3
namespace Go.Proofs.Ytkopbcehfbmnmaa
open Go Go.RowKit
theorem uAdd_jn {p : Nat} (hp : p = 0 ∨ p = 1) {U : Nat → Bool} (h : ∀ x, U (jn p x) = U x) (y x : Nat) : uAdd p U y (jn p x) = uAdd p U y x := by
  unfold uAdd
  rw [h x]
  have e1 : decide (jn p x = y) = decide (x = jn p y) := by
    rw [decide_eq_decide]
    exact ⟨fun e => by rw [← e, jn_jn hp], fun e => by rw [e, jn_jn hp]⟩
  have e2 : decide (jn p x = jn p y) = decide (x = y) := by
    rw [decide_eq_decide]
    exact ⟨fun e => jn_inj hp e, fun e => by rw [e]⟩
  rw [e1, e2]
  cases U x <;> cases decide (x = y) <;> cases decide (x = jn p y) <;> rfl
theorem uRun_jn {M : List Int} {p : Nat} (hp : p = 0 ∨ p = 1) {U : Nat → Bool} (h : ∀ x, U (jn p x) = U x) (m : Nat) : ∀ r x, uRun M p U m r (jn p x) = uRun M p U m r x := by
  intro r
  induction r with
  | zero => exact h
  | succ r ih => exact uAdd_jn hp ih _
theorem usT_jn {M : List Int} {p c : Nat} (hp : p = 0 ∨ p = 1) : ∀ k x, usT M p c k (jn p x) = usT M p c k x := by
  intro k
  induction k with
  | zero => intro x; rfl
  | succ k ih =>
    intro x
    rw [usT]
    split
    · exact ih x
    · exact uRun_jn hp ih _ _ x
section
variable {M : List Int} {n p c : Nat} (hm : Mates M n) (hp : p = 0 ∨ p = 1)
/-- One start of a loop, from the marks U to the marks V, the count k to l. -/
def RunAt (M : List Int) (p c s : Nat) (U V : Nat → Bool) (k l : Nat) : Prop :=
  (U s = true → V = U ∧ l = k) ∧ (U s = false → l = k + 1 ∧ ∃ R, R ≤ 2 ∧ (∀ r, r < R → uRun M p U s r (iter (gst M p) r s) = false ∧ iter (gst M p) r s / 4 = c) ∧ uRun M p U s R (iter (gst M p) R s) = true ∧ iter (gst M p) R s / 4 = c ∧ V = uRun M p U s R)
theorem RunAt.skip {M : List Int} {p c s k : Nat} {U : Nat → Bool} (h : U s = true) : RunAt M p c s U U k k := ⟨fun _ => ⟨rfl, rfl⟩, fun e => by rw [h] at e; cases e⟩
theorem RunAt.one {M : List Int} {p c s k : Nat} {U : Nat → Bool} (h : U s = false) (hs : s / 4 = c) (hg : gst M p s = s) : RunAt M p c s U (uRun M p U s 1) k (k + 1) := by
  refine ⟨fun e => (by rw [h] at e; cases e), fun _ => ⟨rfl, 1, by omega, fun r hr => ?_, ?_, ?_, rfl⟩⟩
  · obtain rfl : r = 0 := by omega
    exact ⟨h, hs⟩
  · rw [uRun_iff]
    exact .inr ⟨0, by omega, .inl hg⟩
  · show gst M p s / 4 = c
    rw [hg]; exact hs
include hm hp
variable {o : Nat → Bool} (hw : Way M n p c o)
include hw
/-- The four starts. -/
theorem four_runs (hc : c < n) : ∃ (U : Nat → Nat → Bool) (k : Nat → Nat), U 0 = usT M p c (4 * n) ∧ k 0 = 0 ∧ k 4 = newL M p c ∧ (∀ x, x < 4 → k x ≤ 2) ∧ ∀ x, x < 4 → RunAt M p c (4 * c + x) (U x) (U (x + 1)) (k x) (k (x + 1)) := by
  obtain ⟨U1, a, ha, hno, hyes, h5, h6⟩ := two_runs hm hp hw hc
  have h0 : 4 * c < 4 * n := by omega
  have h2 : 4 * c + 2 < 4 * n := by omega
  have hu0 := usT_all hm hp hw h0 (by omega)
  have hcl : ∀ y, U1 (jn p y) = U1 y := by
    cases hi : inn M p c (4 * c) with
    | false => rw [(hno hi).1]; exact usT_jn hp _
    | true =>
      obtain ⟨_, R, _, _, _, _, e⟩ := hyes hi
      rw [e]; exact uRun_jn hp (usT_jn hp _) _ _
  have hin : U1 (4 * c) = true := by
    cases hi : inn M p c (4 * c) with
    | false => rw [(hno hi).1, hu0, hi]; rfl
    | true =>
      obtain ⟨_, R, _, _, h3, _, e⟩ := hyes hi
      rw [e, uRun_iff]
      cases R with
      | zero =>
        exfalso
        have h3 : usT M p c (4 * n) (4 * c) = true := h3
        rw [hu0, hi] at h3; cases h3
      | succ R => exact .inr ⟨0, by omega, .inl rfl⟩
  have s0 : RunAt M p c (4 * c + 0) (usT M p c (4 * n)) U1 0 a := by
    rw [Nat.add_zero]
    cases hi : inn M p c (4 * c) with
    | false =>
      obtain ⟨e1, e2⟩ := hno hi
      rw [e1, e2]
      exact RunAt.skip (by rw [hu0, hi]; rfl)
    | true =>
      obtain ⟨e1, R, r1, r2, r3, r4, r5⟩ := hyes hi
      exact ⟨fun e => (by rw [hu0, hi] at e; cases e), fun _ => ⟨by omega, R, r1, r2, r3, r4, r5⟩⟩
  have nl2 := newL_le M p c
  rcases hp with hp0 | hp1
  · subst hp0
    have j0 : jn 0 (4 * c) = 4 * c + 1 := by rw [jn_0, if_pos rfl]
    have j2 : jn 0 (4 * c + 2) = 4 * c + 3 := by rw [jn_2, if_pos rfl]
    have i1 : U1 (4 * c + 1) = true := by rw [← j0, hcl]; exact hin
    have e23 : U1 (4 * c + 3) = U1 (4 * c + 2) := by rw [← j2, hcl]
    rw [j2] at h5 h6
    rw [e23] at h5 h6
    cases hq : U1 (4 * c + 2) with
    | true =>
      refine ⟨fun x => if x = 0 then usT M 0 c (4 * n) else U1, fun x => if x = 0 then 0 else a, rfl, rfl, (h6 hq).symm, fun x _ => by show (if x = 0 then 0 else a) ≤ 2; split <;> omega, fun x hx => ?_⟩
      rcases (show x = 0 ∨ x = 1 ∨ x = 2 ∨ x = 3 from by omega) with e | e | e | e <;> subst e
      · exact s0
      · exact RunAt.skip i1
      · exact RunAt.skip hq
      · exact RunAt.skip (e23.trans hq)
    | false =>
      obtain ⟨hg, hnl⟩ := h5 hq
      have hg2 : gst M 0 (4 * c + 2) = 4 * c + 2 := by
        unfold gst at hg ⊢
        rw [j2]
        rw [← j2, jn_jn (.inl rfl)] at hg
        have := congrArg (mt M) hg
        rw [hm.inv h2, j2] at this
        exact this.symm
      have hV := uRun_jn (M := M) (p := 0) (.inl rfl) hcl (4 * c + 2) 1 (4 * c + 2)
      rw [j2] at hV
      have hV2 : uRun M 0 U1 (4 * c + 2) 1 (4 * c + 2) = true := by rw [uRun_iff]; exact .inr ⟨0, by omega, .inl rfl⟩
      refine ⟨fun x => if x = 0 then usT M 0 c (4 * n) else if x ≤ 2 then U1 else uRun M 0 U1 (4 * c + 2) 1, fun x => if x = 0 then 0 else if x ≤ 2 then a else newL M 0 c, rfl, rfl, rfl, fun x _ => by show (if x = 0 then 0 else if x ≤ 2 then a else newL M 0 c) ≤ 2; split <;> (try split) <;> omega, fun x hx => ?_⟩
      rcases (show x = 0 ∨ x = 1 ∨ x = 2 ∨ x = 3 from by omega) with e | e | e | e <;> subst e
      · exact s0
      · exact RunAt.skip i1
      · have := RunAt.one (M := M) (p := 0) (k := a) hq (show (4 * c + 2) / 4 = c by omega) hg2
        rw [← hnl] at this
        exact this
      · exact RunAt.skip (hV.trans hV2)
  · subst hp1
    have j0 : jn 1 (4 * c) = 4 * c + 3 := by rw [jn_0, if_neg (by decide)]
    have j2 : jn 1 (4 * c + 2) = 4 * c + 1 := by rw [jn_2, if_neg (by decide)]
    have i3 : U1 (4 * c + 3) = true := by rw [← j0, hcl]; exact hin
    have e21 : U1 (4 * c + 1) = U1 (4 * c + 2) := by rw [← j2, hcl]
    rw [j2] at h5 h6
    cases hq : U1 (4 * c + 1) with
    | true =>
      refine ⟨fun x => if x = 0 then usT M 1 c (4 * n) else U1, fun x => if x = 0 then 0 else a, rfl, rfl, (h6 hq).symm, fun x _ => by show (if x = 0 then 0 else a) ≤ 2; split <;> omega, fun x hx => ?_⟩
      rcases (show x = 0 ∨ x = 1 ∨ x = 2 ∨ x = 3 from by omega) with e | e | e | e <;> subst e
      · exact s0
      · exact RunAt.skip hq
      · exact RunAt.skip (e21.symm.trans hq)
      · exact RunAt.skip i3
    | false =>
      obtain ⟨hg, hnl⟩ := h5 hq
      have hV := uRun_jn (M := M) (p := 1) (.inr rfl) hcl (4 * c + 1) 1 (4 * c + 2)
      rw [j2] at hV
      have hV2 : uRun M 1 U1 (4 * c + 1) 1 (4 * c + 1) = true := by rw [uRun_iff]; exact .inr ⟨0, by omega, .inl rfl⟩
      refine ⟨fun x => if x = 0 then usT M 1 c (4 * n) else if x ≤ 1 then U1 else uRun M 1 U1 (4 * c + 1) 1, fun x => if x = 0 then 0 else if x ≤ 1 then a else newL M 1 c, rfl, rfl, rfl, fun x _ => by show (if x = 0 then 0 else if x ≤ 1 then a else newL M 1 c) ≤ 2; split <;> (try split) <;> omega, fun x hx => ?_⟩
      rcases (show x = 0 ∨ x = 1 ∨ x = 2 ∨ x = 3 from by omega) with e | e | e | e <;> subst e
      · exact s0
      · have := RunAt.one (M := M) (p := 1) (k := a) hq (show (4 * c + 1) / 4 = c by omega) hg
        rw [← hnl] at this
        exact this
      · exact RunAt.skip (hV.symm.trans hV2)
      · exact RunAt.skip (uRun_mono i3 1)
end
section
variable {w : World} {ops : Array Oper} {o : Oper} {a : Act}
/-- An append of one number at a step of a region that draws its order. -/
theorem step_append_one {K : Act → World → Prop} {Q : Exit → Act → World → Prop} {E : Prop} (hgd : o.guard = none) (s x : Operand) (ho : o.op = .call { callee := .builtin .append, args := #[s, x], argTypes := #[22, 22] })
    (B : Nat) (i : TypeInfo) (h2 : Try.prog.info? 3 = some i) (h3 : i.zero = some (.int .i64 0)) (h4 : i.size = 1) (h5 : i.bytes = 8) (A : Option Addr) (n c : Nat) (vs : List Value) (hs : a.eval s = .slice A n c) (hn : vs.length = n) (hown : Own w B 3 A c vs) (ad : Addr) (m' : Nat) (u : Value) (hx : a.eval x = .slice (some ad) 1 m') (hu : w.cell? ad = some u) (hu1 : u.oneCell' = true)
    (hn1 : n ≤ 1000) (hB : B ≤ w.heap.size) (h : ∀ A' c' w', Own w' B 3 A' c' (vs ++ [u]) → Turned w w' A → (∀ x, A' = some x → (w.heap.size ≤ x.block ∨ ∃ y, A = some y ∧ x = y)) → K (a.put o.dst (.slice A' (n + 1) c')) w') :
    if Region.wanted o (yielded ops a.tmps) = true then Oper.wp Try.prog o a w K Q else E := by
  have hw : Region.wanted o (yielded ops a.tmps) = true := by simp [Region.wanted, hgd]
  rw [if_pos hw]
  subst hn
  obtain ⟨a', c', w', hrun, r1, r2, r3⟩ := run_append_one (P := Try.prog) w B 22 o.type 3 i (.int .i64 0) 8 Try.underlying22 h2 h3 h4 h5 rfl A c vs hown ad m' u hu hu1 (by omega) (by omega) hB
  unfold Oper.wp
  simp [execOp, ho, resolve, invoke, builtin, hs, hx, hrun, Result.andThen]
  exact h a' c' w' r1 r2 r3
end
/-- The reference's joins and marks at c. -/
def tq (p c : Nat) : List Int := [((jn p (4 * c) : Nat) : Int), ((jn p (4 * c + 1) : Nat) : Int), ((jn p (4 * c + 2) : Nat) : Int), ((jn p (4 * c + 3) : Nat) : Int)]
def sn (U : Nat → Bool) (c : Nat) : List Bool := [U (4 * c), U (4 * c + 1), U (4 * c + 2), U (4 * c + 3)]
theorem tq_len (p c : Nat) : (tq p c).length = 4 := rfl
theorem sn_len (U : Nat → Bool) (c : Nat) : (sn U c).length = 4 := rfl
theorem tq_0 (c : Nat) : ints (tq 0 c) = [.int .i64 (4 * (c : Int) + 1), .int .i64 (4 * (c : Int)), .int .i64 (4 * (c : Int) + 3), .int .i64 (4 * (c : Int) + 2)] := by
  have h0 : jn 0 (4 * c) = 4 * c + 1 := by rw [jn_0, if_pos rfl]
  have h2 : jn 0 (4 * c + 2) = 4 * c + 3 := by rw [jn_2, if_pos rfl]
  have h1 : jn 0 (4 * c + 1) = 4 * c := by rw [← h0, jn_jn (.inl rfl)]
  have h3 : jn 0 (4 * c + 3) = 4 * c + 2 := by rw [← h2, jn_jn (.inl rfl)]
  unfold tq ints
  rw [h0, h1, h2, h3]
  simp
theorem tq_1 (c : Nat) : ints (tq 1 c) = [.int .i64 (4 * (c : Int) + 3), .int .i64 (4 * (c : Int) + 2), .int .i64 (4 * (c : Int) + 1), .int .i64 (4 * (c : Int))] := by
  have h0 : jn 1 (4 * c) = 4 * c + 3 := by rw [jn_0, if_neg (by decide)]
  have h2 : jn 1 (4 * c + 2) = 4 * c + 1 := by rw [jn_2, if_neg (by decide)]
  have h1 : jn 1 (4 * c + 1) = 4 * c + 2 := by rw [← h2, jn_jn (.inr rfl)]
  have h3 : jn 1 (4 * c + 3) = 4 * c := by rw [← h0, jn_jn (.inr rfl)]
  unfold tq ints
  rw [h0, h1, h2, h3]
  simp
theorem tq_at (p c x : Nat) (h : x / 4 = c) : nth (tq p c) (x % 4) = ((jn p x : Nat) : Int) := by
  rcases (show (x % 4 = 0 ∧ x = 4 * c) ∨ (x % 4 = 1 ∧ x = 4 * c + 1) ∨ (x % 4 = 2 ∧ x = 4 * c + 2) ∨ (x % 4 = 3 ∧ x = 4 * c + 3) from by omega) with ⟨e, rfl⟩ | ⟨e, rfl⟩ | ⟨e, rfl⟩ | ⟨e, rfl⟩ <;> rw [e] <;> rfl
theorem sn_at (U : Nat → Bool) (c x : Nat) (h : x / 4 = c) : bth (sn U c) (x % 4) = U x := by
  rcases (show (x % 4 = 0 ∧ x = 4 * c) ∨ (x % 4 = 1 ∧ x = 4 * c + 1) ∨ (x % 4 = 2 ∧ x = 4 * c + 2) ∨ (x % 4 = 3 ∧ x = 4 * c + 3) from by omega) with ⟨e, rfl⟩ | ⟨e, rfl⟩ | ⟨e, rfl⟩ | ⟨e, rfl⟩ <;> rw [e] <;> rfl
theorem sn_set (U : Nat → Bool) (c x : Nat) (h : x / 4 = c) : (sn U c).set (x % 4) true = sn (updN U x true) c := by
  rcases (show (x % 4 = 0 ∧ x = 4 * c) ∨ (x % 4 = 1 ∧ x = 4 * c + 1) ∨ (x % 4 = 2 ∧ x = 4 * c + 2) ∨ (x % 4 = 3 ∧ x = 4 * c + 3) from by omega) with ⟨e, rfl⟩ | ⟨e, rfl⟩ | ⟨e, rfl⟩ | ⟨e, rfl⟩ <;> rw [e] <;> simp [sn, updN]
theorem sn_j (U : Nat → Bool) (c j : Nat) (h : j < 4) : bth (sn U c) j = U (4 * c + j) := by
  have := sn_at U c (4 * c + j) (by omega)
  rwa [show (4 * c + j) % 4 = j from by omega] at this
/-- The ends of the strands, the first h. -/
def enT (M : List Int) (p c n h : Nat) : List Int := lst (4 * n) fun x => if x < h ∧ x / 4 ≠ c then ((thr M p c (mt M x) : Nat) : Int) else 0
theorem enT_len (M : List Int) (p c n h : Nat) : (enT M p c n h).length = 4 * n := lst_len _ _
theorem enT_zero (M : List Int) (p c n : Nat) : enT M p c n 0 = List.replicate (4 * n) 0 := (lst_ext (by simp) fun x hx => by rw [if_neg (by omega)]; simp [nth, hx]).symm
theorem enT_skip (M : List Int) (p c n h : Nat) (hc : h / 4 = c) : enT M p c n (h + 1) = enT M p c n h := lst_congr fun x _ => by
  by_cases e : x < h ∧ x / 4 ≠ c
  · rw [if_pos e, if_pos ⟨by omega, e.2⟩]
  · rw [if_neg e, if_neg]
    rintro ⟨e1, e2⟩
    exact e ⟨by have : x ≠ h := fun g => e2 (g ▸ hc); omega, e2⟩
theorem enT_set (M : List Int) (p c n h : Nat) (hh : h < 4 * n) (hc : h / 4 ≠ c) : (enT M p c n h).set h ((thr M p c (mt M h) : Nat) : Int) = enT M p c n (h + 1) := lst_set hh (by rw [if_pos ⟨by omega, hc⟩]) fun x _ hx => by
  by_cases e : x < h ∧ x / 4 ≠ c
  · rw [if_pos e, if_pos ⟨by omega, e.2⟩]
  · rw [if_neg e, if_neg (fun g => e ⟨by omega, g.2⟩)]
theorem enT_at (M : List Int) (p c n h : Nat) (hh : h < 4 * n) (hc : h / 4 ≠ c) : nth (enT M p c n (4 * n)) h = ((thr M p c (mt M h) : Nat) : Int) := by
  unfold enT; rw [lst_nth hh, if_pos ⟨hh, hc⟩]
set_option maxRecDepth 100000 in
set_option maxHeartbeats 16000000 in
theorem rsmooth_any (S M : List Int) (L : Int) (aS aM : Option Addr) (cS cM c : Nat) (w : World) (hv : vldB S M L = true) (hc : c < S.length) (hS : IntsAt w aS S) (hM : IntsAt w aM M) :
    Calls Try.prog 60 #[.agg #[.slice aS S.length cS, .slice aM M.length cM, .int .i64 L], .int .i64 (c : Int)] w (RfR w (smS S c).length (smM S M c).length (smS S c) (smM S M c) (L + (newL M (pS S c) c : Nat))) := by
  have hs := vldB_shape hv
  have hSl := hs.few
  have hMl : M.length ≤ 256 := by have := hs.len; omega
  have hM4a : 4 * S.length ≤ M.length := by have := hs.len; omega
  have hM4b : M.length ≤ 4 * S.length := by have := hs.len; omega
  have hL0 := hs.lo
  have hL1 := hs.hi
  obtain ⟨bS, oS, rfl, hbS, hcS⟩ := hS.open (by omega)
  obtain ⟨bM, oM, rfl, hbM, hcM⟩ := hM.open (by omega)
  have HcS : Hid (∀ W', Below w.heap.size w W' → ∀ x, x < S.length → W'.cell? ⟨bS, oS + x, none⟩ = some (.int .i64 (nth S x))) := Lib.hid fun W' h x hx => (h.cell (p := ⟨bS, oS + x, none⟩) hbS).trans (hcS x hx)
  have HcM : Hid (∀ W', Below w.heap.size w W' → ∀ x, x < 4 * S.length → W'.cell? ⟨bM, oM + x, none⟩ = some (.int .i64 ((mt M x : Nat) : Int))) := Lib.hid fun W' h x hx => by
    rw [h.cell (p := ⟨bM, oM + x, none⟩) hbM, hcM x (by omega), show nth M x = ((mt M x : Nat) : Int) from (hs.cast x hx).symm]
  obtain ⟨W, hW⟩ : ∃ W, W = ((w.alloc (.cells #[.slice (some ⟨bS, oS, none⟩) S.length cS, .slice (some ⟨bM, oM, none⟩) M.length cM, .int .i64 L] 24)).alloc (.cells #[.slice none 0 0, .slice none 0 0, .int .i64 0] 24)) := ⟨_, rfl⟩
  have h0 : HH w W [(w.heap.size, rowO 24 [.slice (some ⟨bS, oS, none⟩) S.length cS, .slice (some ⟨bM, oM, none⟩) M.length cM, .int .i64 L]), (w.heap.size + 1, rowO 24 [.slice none 0 0, .slice none 0 0, .int .i64 0])] [] := by rw [hW]; exact (((HH.start w).alloc #[.slice (some ⟨bS, oS, none⟩) S.length cS, .slice (some ⟨bM, oM, none⟩) M.length cM, .int .i64 L] 24 rfl rfl).alloc #[.slice none 0 0, .slice none 0 0, .int .i64 0] 24 (by simp) rfl)
  have H0 := Lib.hid h0
  have Hs := Lib.hid hs
  have Hm := Lib.hid hs.mates2
  have Hpp := Lib.hid (pS_pp S c)
  have Hw := Lib.hid (sm_way hs hc)
  have hnl := newL_le M (pS S c) c
  have hmk4 : ∀ W : World, (Instr.makeSlice 22 (.int .i64 4) (.int .i64 4)).run Try.prog W = .ok (.slice (some ⟨W.heap.size, 0, none⟩) 4 4) (W.alloc (.cells #[.int .i64 0, .int .i64 0, .int .i64 0, .int .i64 0] 3)) := fun W => run_mk 4 (by omega) W
  have hmkB : ∀ W : World, (Instr.makeSlice 87 (.int .i64 4) (.int .i64 4)).run Try.prog W = .ok (.slice (some ⟨W.heap.size, 0, none⟩) 4 4) (W.alloc (.cells #[.bool false, .bool false, .bool false, .bool false] 4)) := fun W => run_mkB 4 (by omega) W
  have hmk := run_mk M.length (by omega)
  have Hsg := Lib.hid (Hs.out.sign c hc)
  clear hv hS hM h0 hs hcS hcM hbS hbM
  go_enter Try.func60, Try.ntmps60
  go_upto_region 1 with fail
  rw [← hW]
  clear hW
  have hc0 := H0.out.cell (k := 0) (i := 0) rfl rfl
  have hcc := HcS.out W H0.out.below c hc
  go_upto_if 30 with fail
  go_cut [5, 6] (fun s5 s6 wx => s5 = .int .i64 ((jn (pS S c) (4 * c + 2) : Nat) : Int) ∧ s6 = .int .i64 ((jn (pS S c) (4 * c) : Nat) : Int) ∧ wx = W)
  case first =>
    rcases Hsg.out with hsg | hsg
    · have hp0 : pS S c = 0 := by unfold pS; rw [hsg]; rfl
      have e1 : ((jn (pS S c) (4 * c + 2) : Nat) : Int) = 4 * (c : Int) + 3 := by rw [jn_2, if_pos hp0]; omega
      have e2 : ((jn (pS S c) (4 * c) : Nat) : Int) = 4 * (c : Int) + 1 := by rw [jn_0, if_pos hp0]; omega
      have ht1 : decide (nth S c < 0) = false := decide_eq_false (by rw [hsg]; decide)
      have ht2 : ¬ nth S c < 0 := by rw [hsg]; decide
      have Hee := Lib.hid (And.intro e1 e2)
      clear hsg hp0 e1 e2
      go_wp2_with fail
      go_meet
      exact ⟨by rw [Hee.out.1], by rw [Hee.out.2], rfl⟩
    · have hp0 : ¬ pS S c = 0 := by unfold pS; rw [hsg]; decide
      have e1 : ((jn (pS S c) (4 * c + 2) : Nat) : Int) = 4 * (c : Int) + 1 := by rw [jn_2, if_neg hp0]; omega
      have e2 : ((jn (pS S c) (4 * c) : Nat) : Int) = 4 * (c : Int) + 3 := by rw [jn_0, if_neg hp0]; omega
      have ht1 : decide (nth S c < 0) = true := decide_eq_true (by rw [hsg]; decide)
      have ht2 : nth S c < 0 := by rw [hsg]; decide
      have Hee := Lib.hid (And.intro e1 e2)
      clear hsg hp0 e1 e2
      go_wp2_with fail
      go_meet
      exact ⟨by rw [Hee.out.1], by rw [Hee.out.2], rfl⟩
  case rest =>
    obtain ⟨rfl, rfl, rfl⟩ := hcut
    clear hc0 hcc Hsg
    have HQ : Hid (((jn (pS S c) (4 * c + 2) % 4 < 4 ∧ jn (pS S c) (4 * c) % 4 < 4) ∧ jn (pS S c) (4 * c + 2) / 4 = c ∧ jn (pS S c) (4 * c) / 4 = c) ∧ ((((([0, 0, 0, 0] : List Int).set 0 ((jn (pS S c) (4 * c) : Nat) : Int)).set 2 ((jn (pS S c) (4 * c + 2) : Nat) : Int)).set (jn (pS S c) (4 * c + 2) % 4) (4 * (c : Int) + 2)).set (jn (pS S c) (4 * c) % 4) (4 * (c : Int))) = tq (pS S c) c) := Lib.hid (by
      refine ⟨⟨⟨Nat.mod_lt _ (by decide), Nat.mod_lt _ (by decide)⟩, by rw [jn_div]; omega, by rw [jn_div]; omega⟩, ?_⟩
      rcases Hpp.out with hp | hp <;> rw [hp]
      · have h0 : jn 0 (4 * c) = 4 * c + 1 := by rw [jn_0, if_pos rfl]
        have h2 : jn 0 (4 * c + 2) = 4 * c + 3 := by rw [jn_2, if_pos rfl]
        have h1 : jn 0 (4 * c + 1) = 4 * c := by rw [← h0, jn_jn (.inl rfl)]
        have h3 : jn 0 (4 * c + 3) = 4 * c + 2 := by rw [← h2, jn_jn (.inl rfl)]
        unfold tq
        rw [h0, h1, h2, h3, show (4 * c + 3) % 4 = 3 from by omega, show (4 * c + 1) % 4 = 1 from by omega]
        simp
      · have h0 : jn 1 (4 * c) = 4 * c + 3 := by rw [jn_0, if_neg (by decide)]
        have h2 : jn 1 (4 * c + 2) = 4 * c + 1 := by rw [jn_2, if_neg (by decide)]
        have h1 : jn 1 (4 * c + 1) = 4 * c + 2 := by rw [← h2, jn_jn (.inr rfl)]
        have h3 : jn 1 (4 * c + 3) = 4 * c := by rw [← h0, jn_jn (.inr rfl)]
        unfold tq
        rw [h0, h1, h2, h3, show (4 * c + 3) % 4 = 3 from by omega, show (4 * c + 1) % 4 = 1 from by omega]
        simp)
    go_upto_region 5 with fail
    obtain ⟨v0, hv0⟩ : ∃ x, x = wc.alloc (.cells #[.int .i64 0, .int .i64 0, .int .i64 0, .int .i64 0] 3) := ⟨_, rfl⟩
    rw [← hv0]
    have h1 : HH w v0 [(w.heap.size, rowO 24 [.slice (some ⟨bS, oS, none⟩) S.length cS, .slice (some ⟨bM, oM, none⟩) M.length cM, .int .i64 L]), (w.heap.size + 1, rowO 24 [.slice none 0 0, .slice none 0 0, .int .i64 0]), (wc.heap.size, rowO 3 (ints [0, 0, 0, 0]))] [] := by
      rw [hv0]; exact H0.out.alloc _ 3 rfl rfl
    obtain ⟨bQ, hbQ⟩ : ∃ x, x = wc.heap.size := ⟨_, rfl⟩
    rw [← hbQ] at h1
    rw [← hbQ]
    clear hbQ hv0 H0 hmk4
    obtain ⟨q, hq⟩ : ∃ q, q = jn (pS S c) (4 * c + 2) := ⟨_, rfl⟩
    obtain ⟨p, hp⟩ : ∃ p, p = jn (pS S c) (4 * c) := ⟨_, rfl⟩
    rw [← hq, ← hp] at HQ
    rw [← hq, ← hp]
    clear hq hp
    have hqc : q ≤ 256 := by have := HQ.out.1.2.1; omega
    have hpc : p ≤ 256 := by have := HQ.out.1.2.2; omega
    obtain ⟨sq, hsq⟩ : ∃ s, s = q % 4 := ⟨_, rfl⟩
    obtain ⟨sp, hsp⟩ : ∃ s, s = p % 4 := ⟨_, rfl⟩
    have e1 : (q : Int) % 4 = (sq : Int) := by omega
    have e2 : (q : Int).tmod 4 = (sq : Int) := by rw [Int.tmod_eq_emod_of_nonneg (by omega)]; exact e1
    have e3 : (p : Int) % 4 = (sp : Int) := by omega
    have e4 : (p : Int).tmod 4 = (sp : Int) := by rw [Int.tmod_eq_emod_of_nonneg (by omega)]; exact e3
    have e5 : sq < 4 := by omega
    have e6 : sp < 4 := by omega
    rw [← hsq, ← hsp] at HQ
    clear hsq hsp
    have a0 := h1.int (k := 2) rfl 0 (by simp)
    have b0 := h1.frozen (k := 2) rfl 0
    have h2 := h1.setInt (k := 2) rfl 0 (p : Int)
    have a1 := h2.int (k := 2) rfl 2 (by simp)
    have b1 := h2.frozen (k := 2) rfl 2
    have h3 := h2.setInt (k := 2) rfl 2 (q : Int)
    have a2 := h3.int (k := 2) rfl sq (by simpa using e5)
    have b2 := h3.frozen (k := 2) rfl sq
    have h4 := h3.setInt (k := 2) rfl sq (4 * (c : Int) + 2)
    have a3 := h4.int (k := 2) rfl sp (by simpa using e6)
    have b3 := h4.frozen (k := 2) rfl sp
    have h5 := h4.setInt (k := 2) rfl sp (4 * (c : Int))
    rw [HQ.out.2] at h5
    generalize nth [0, 0, 0, 0] 0 = y0 at *
    generalize nth (([0, 0, 0, 0] : List Int).set 0 (p : Int)) 2 = y1 at *
    generalize nth ((([0, 0, 0, 0] : List Int).set 0 (p : Int)).set 2 (q : Int)) sq = y2 at *
    generalize nth (((([0, 0, 0, 0] : List Int).set 0 (p : Int)).set 2 (q : Int)).set sq (4 * (c : Int) + 2)) sp = y3 at *
    have H1 := Lib.hid h5
    clear h1 h2 h3 h4 h5
    go_upto_region 9 with fail
    obtain ⟨v9, hv9⟩ : ∃ x, x = (((v0.setCell ⟨bQ, 0, none⟩ (.int .i64 (p : Int))).setCell ⟨bQ, 2, none⟩ (.int .i64 (q : Int))).setCell ⟨bQ, sq, none⟩ (.int .i64 (4 * (c : Int) + 2))).setCell ⟨bQ, sp, none⟩ (.int .i64 (4 * (c : Int))) := ⟨_, rfl⟩
    rw [← hv9] at H1
    rw [← hv9]
    clear hv9 a0 b0 a1 b1 a2 b2 a3 b3 e1 e2 e3 e4 e5 e6 HQ
    have hc0 := H1.out.cell (k := 0) (i := 1) rfl rfl
    go_upto_region 11 with fail
    obtain ⟨v1, hv1⟩ : ∃ x, x = v9.alloc (.cells (Array.replicate M.length (.int .i64 0)) 3) := ⟨_, rfl⟩
    rw [← hv1]
    have h2 : HH w v1 [(w.heap.size, rowO 24 [.slice (some ⟨bS, oS, none⟩) S.length cS, .slice (some ⟨bM, oM, none⟩) M.length cM, .int .i64 L]), (w.heap.size + 1, rowO 24 [.slice none 0 0, .slice none 0 0, .int .i64 0]), (bQ, rowO 3 (ints (tq (pS S c) c))), (v9.heap.size, rowO 3 (ints (enT M (pS S c) c S.length 0)))] [] := by
      rw [hv1, enT_zero, show 4 * S.length = M.length from by omega]; exact H1.out.alloc _ 3 rfl (zeros_ints _)
    obtain ⟨bE, hbE⟩ : ∃ x, x = v9.heap.size := ⟨_, rfl⟩
    rw [← hbE] at h2
    rw [← hbE]
    have H2 := Lib.hid h2
    clear hbE hv1 h2 H1 hc0 hmk
    go_upto_region 12 with fail
    obtain ⟨v2, hv2⟩ : ∃ x, x = v1.alloc (.cells #[.bool false, .bool false, .bool false, .bool false] 4) := ⟨_, rfl⟩
    rw [← hv2]
    have h3 : HH w v2 [(w.heap.size, rowO 24 [.slice (some ⟨bS, oS, none⟩) S.length cS, .slice (some ⟨bM, oM, none⟩) M.length cM, .int .i64 L]), (w.heap.size + 1, rowO 24 [.slice none 0 0, .slice none 0 0, .int .i64 0]), (bQ, rowO 3 (ints (tq (pS S c) c))), (bE, rowO 3 (ints (enT M (pS S c) c S.length 0))), (v1.heap.size, rowO 4 (bools (sn (usT M (pS S c) c 0) c)))] [] := by
      rw [hv2]; exact H2.out.alloc _ 4 rfl rfl
    obtain ⟨bN, hbN⟩ : ∃ x, x = v1.heap.size := ⟨_, rfl⟩
    rw [← hbN] at h3
    rw [← hbN]
    have H3 := Lib.hid h3
    clear hbN hv2 h3 H2 hmkB
    go_wp2_with fail
    go_loopg [11, 12] M.length (fun g v _ wr => ∃ h : Nat, h ≤ M.length ∧ g = M.length - h ∧ v = .int .i64 h ∧ HH w wr [(w.heap.size, rowO 24 [.slice (some ⟨bS, oS, none⟩) S.length cS, .slice (some ⟨bM, oM, none⟩) M.length cM, .int .i64 L]), (w.heap.size + 1, rowO 24 [.slice none 0 0, .slice none 0 0, .int .i64 0]), (bQ, rowO 3 (ints (tq (pS S c) c))), (bE, rowO 3 (ints (enT M (pS S c) c S.length h))), (bN, rowO 4 (bools (sn (usT M (pS S c) c h) c)))] [])
    case atStart => exact ⟨0, Nat.zero_le _, rfl, rfl, H3.out⟩
    case round =>
      clear H3
      obtain ⟨h, hh, rfl, rfl, hk⟩ := hrel
      have Hk := Lib.hid hk
      clear hk
      by_cases hhl : h < M.length
      · have hc1 := Hk.out.cell (k := 0) (i := 1) rfl rfl
        have hcm := HcM.out wr Hk.out.below h (by omega)
        have hml := Hs.out.mt_lt (x := h) (by omega)
        by_cases hhc : h / 4 = c
        · have ht1 : (h : Int) / 4 = (c : Int) := by omega
          have Hst : Hid (usT M (pS S c) c (h + 1) = usT M (pS S c) c h ∧ enT M (pS S c) c S.length (h + 1) = enT M (pS S c) c S.length h) := Lib.hid ⟨if_pos hhc, enT_skip _ _ _ _ _ hhc⟩
          clear hhc
          generalize mt M h = m at *
          go_wp2_with fail
          go_roundg (M.length - (h + 1))
          case measure => omega
          case rel => exact ⟨h + 1, by omega, rfl, by go_num, by rw [Hst.out.1, Hst.out.2]; exact Hk.out⟩
        · have ht1 : ¬ ((h : Int) / 4 = (c : Int)) := by omega
          have ht2 : ((h : Int) / 4 == (c : Int)) = false := by rw [beq_eq_false_iff_ne]; exact ht1
          have Hst : Hid (usT M (pS S c) c (h + 1) = uRun M (pS S c) (usT M (pS S c) c h) (mt M h) (pas M (pS S c) c (mt M h)) ∧ enT M (pS S c) c S.length (h + 1) = (enT M (pS S c) c S.length h).set h ((thr M (pS S c) c (mt M h) : Nat) : Int)) := Lib.hid ⟨if_neg hhc, (enT_set _ _ _ _ _ (by omega) hhc).symm⟩
          have Hith := Lib.hid (pas_thr M (pS S c) c (mt M h))
          have Hpin := Lib.hid (pas_in M (pS S c) c (mt M h))
          have Hout := Lib.hid (thr_out Hm.out Hpp.out (x := h) (by omega) hhc)
          have Hil := Lib.hid (gst_iter_lt (p := (pS S c)) Hm.out hml)
          have Hpas := Lib.hid (pas_le M (pS S c) c (mt M h))
          obtain ⟨R, hR⟩ : ∃ R, R = pas M (pS S c) c (mt M h) := ⟨_, rfl⟩
          rw [← hR] at Hith Hpin Hst Hpas
          have hR2 : R ≤ 2 := Hpas.out
          clear hR hhc
          go_wp2_with fail
          clear hcm hc1
          go_loopg [12] R (fun g v wr => ∃ r : Nat, r ≤ R ∧ g = R - r ∧ v = .int .i64 ((iter (gst M (pS S c)) r (mt M h) : Nat) : Int) ∧ HH w wr [(w.heap.size, rowO 24 [.slice (some ⟨bS, oS, none⟩) S.length cS, .slice (some ⟨bM, oM, none⟩) M.length cM, .int .i64 L]), (w.heap.size + 1, rowO 24 [.slice none 0 0, .slice none 0 0, .int .i64 0]), (bQ, rowO 3 (ints (tq (pS S c) c))), (bE, rowO 3 (ints (enT M (pS S c) c S.length h))), (bN, rowO 4 (bools (sn (uRun M (pS S c) (usT M (pS S c) c h) (mt M h) r) c)))] [])
          case atStart => exact ⟨0, Nat.zero_le _, rfl, rfl, Hk.out⟩
          case round =>
            clear Hk
            obtain ⟨r, hr, rfl, rfl, hk⟩ := hrel
            have Hk := Lib.hid hk
            clear hk
            have hil := Hil.out r
            by_cases hrR : r < R
            · have hmc := Hpin.out r hrR
              have Hnx : Hid (iter (gst M (pS S c)) (r + 1) (mt M h) = mt M (jn (pS S c) (iter (gst M (pS S c)) r (mt M h))) ∧ uRun M (pS S c) (usT M (pS S c) c h) (mt M h) (r + 1) = uAdd (pS S c) (uRun M (pS S c) (usT M (pS S c) c h) (mt M h) r) (iter (gst M (pS S c)) r (mt M h))) := Lib.hid ⟨rfl, rfl⟩
              have hjl := jn_lt (p := (pS S c)) hil
              have hgl := Hm.out.lt hjl
              have hjc : jn (pS S c) (iter (gst M (pS S c)) r (mt M h)) / 4 = c := by rw [jn_div]; exact hmc
              have Hcz : Hid (∀ W', Below w.heap.size w W' → W'.cell? ⟨bM, oM + jn (pS S c) (iter (gst M (pS S c)) r (mt M h)), none⟩ = some (.int .i64 ((mt M (jn (pS S c) (iter (gst M (pS S c)) r (mt M h))) : Nat) : Int))) := Lib.hid fun W' hW' => HcM.out W' hW' _ hjl
              have ht3 : ((iter (gst M (pS S c)) r (mt M h) : Nat) : Int) / 4 = (c : Int) := by omega
              have Htq := Lib.hid (tq_at (pS S c) c (iter (gst M (pS S c)) r (mt M h)) hmc)
              rw [uAdd_updN] at Hnx
              generalize uRun M (pS S c) (usT M (pS S c) c h) (mt M h) r = F at *
              generalize iter (gst M (pS S c)) r (mt M h) = x at *
              have h6 := Hk.out.setBool (k := 4) rfl (x % 4) true
              rw [sn_set F c x hmc] at h6
              have H6 := Lib.hid h6
              have hn1 := Hk.out.bool (k := 4) rfl (x % 4) (by rw [sn_len]; omega)
              have hn2 := Hk.out.frozen (k := 4) rfl (x % 4)
              have hq1 := H6.out.int (k := 2) rfl (x % 4) (by rw [tq_len]; omega)
              rw [Htq.out] at hq1
              generalize jn (pS S c) x = y at *
              have h7 := H6.out.setBool (k := 4) rfl (y % 4) true
              rw [sn_set _ c y hjc] at h7
              have H7 := Lib.hid h7
              have hn3 := H6.out.bool (k := 4) rfl (y % 4) (by rw [sn_len]; omega)
              have hn4 := H6.out.frozen (k := 4) rfl (y % 4)
              have hb1 := H7.out.cell (k := 0) (i := 1) rfl rfl
              have hcz := Hcz.out _ H7.out.below
              clear h6 h7 hmc hjc
              generalize mt M y = z at *
              generalize bth (sn F c) (x % 4) = o1 at *
              generalize bth (sn (updN F x true) c) (y % 4) = o2 at *
              obtain ⟨s1, hs1⟩ : ∃ s, s = x % 4 := ⟨_, rfl⟩
              obtain ⟨s2, hs2⟩ : ∃ s, s = y % 4 := ⟨_, rfl⟩
              have e1 : (x : Int) % 4 = (s1 : Int) := by omega
              have e2 : (x : Int).tmod 4 = (s1 : Int) := by rw [Int.tmod_eq_emod_of_nonneg (by omega)]; exact e1
              have e3 : (y : Int) % 4 = (s2 : Int) := by omega
              have e4 : (y : Int).tmod 4 = (s2 : Int) := by rw [Int.tmod_eq_emod_of_nonneg (by omega)]; exact e3
              have e5 : s1 < 4 := by omega
              have e6 : s2 < 4 := by omega
              rw [← hs1] at hn1 hn2 hq1 H6 H7
              rw [← hs1] at hn3 hn4 hb1 hcz
              rw [← hs2] at hn3 hn4 H7 hb1 hcz
              clear hs1 hs2 Htq
              go_wp2_with fail
              go_roundg (R - (r + 1))
              case measure => omega
              case rel => exact ⟨r + 1, by omega, rfl, by rw [Hnx.out.1], by rw [Hnx.out.2]; exact H7.out⟩
            · obtain rfl : r = R := by omega
              have hto := Hout.out
              rw [← Hith.out] at hto
              have hk := Hk.out
              rw [← Hst.out.1] at hk
              have hsl := hk.setInt (k := 3) rfl h ((thr M (pS S c) c (mt M h) : Nat) : Int)
              rw [← Hst.out.2] at hsl
              have Hsl := Lib.hid hsl
              rw [Hith.out] at hil hto
              have hz1 : ¬ (((thr M (pS S c) c (mt M h) : Nat) : Int) / 4 = (c : Int)) := by omega
              have hz2 : (((thr M (pS S c) c (mt M h) : Nat) : Int) / 4 == (c : Int)) = false := by rw [beq_eq_false_iff_ne]; exact hz1
              have hcw := hk.int (k := 3) rfl h (by rw [enT_len]; omega)
              have hfw := hk.frozen (k := 3) rfl h
              rw [Hith.out]
              generalize nth (enT M (pS S c) c S.length h) h = old at *
              generalize thr M (pS S c) c (mt M h) = t at *
              clear hk hsl hto
              go_wp2_with fail
              go_roundg (M.length - (h + 1))
              case measure => omega
              case rel => exact ⟨h + 1, by omega, rfl, by go_num, Hsl.out⟩
      · obtain rfl : h = M.length := by omega
        have hlen : M.length = 4 * S.length := by omega
        have h5 : HH w wr [(w.heap.size, rowO 24 [.slice (some ⟨bS, oS, none⟩) S.length cS, .slice (some ⟨bM, oM, none⟩) M.length cM, .int .i64 L]), (w.heap.size + 1, rowO 24 [.slice none 0 0, .slice none 0 0, .int .i64 0]), (bQ, rowO 3 (ints (tq (pS S c) c))), (bE, rowO 3 (ints (enT M (pS S c) c S.length (4 * S.length)))), (bN, rowO 4 (bools (sn (usT M (pS S c) c (4 * S.length)) c)))] [] := by
          have := Hk.out
          rw [hlen] at this
          rw [hlen]; exact this
        have H5 := Lib.hid h5
        clear h5 Hk hlen
        obtain ⟨U, kk, hU0, hk0, hk4, hkb, hRA⟩ := four_runs Hm.out Hpp.out Hw.out hc
        have HU0 := Lib.hid hU0
        have Hk0 := Lib.hid hk0
        have Hk4 := Lib.hid hk4
        have Hkb := Lib.hid hkb
        have HRA := Lib.hid hRA
        clear hU0 hk0 hk4 hkb hRA hh hhl
        have hc2 := H5.out.cell (k := 0) (i := 2) rfl rfl
        go_upto_region 24 with fail
        obtain ⟨w5, hw5⟩ : ∃ x, x = wr.alloc (.cells #[.slice none 0 0, .slice none 0 0, .int .i64 L] 24) := ⟨_, rfl⟩
        rw [← hw5]
        have h6 : HH w w5 [(w.heap.size, rowO 24 [.slice (some ⟨bS, oS, none⟩) S.length cS, .slice (some ⟨bM, oM, none⟩) M.length cM, .int .i64 L]), (w.heap.size + 1, rowO 24 [.slice none 0 0, .slice none 0 0, .int .i64 0]), (bQ, rowO 3 (ints (tq (pS S c) c))), (bE, rowO 3 (ints (enT M (pS S c) c S.length (4 * S.length)))), (bN, rowO 4 (bools (sn (U 0) c))), (wr.heap.size, rowO 24 [.slice none 0 0, .slice none 0 0, .int .i64 (L + ((kk 0 : Nat) : Int))])] [] := by
          rw [hw5, HU0.out, Hk0.out, show L + ((0 : Nat) : Int) = L from Int.add_zero L]; exact H5.out.alloc #[.slice none 0 0, .slice none 0 0, .int .i64 L] 24 rfl rfl
        obtain ⟨bX, hbX⟩ : ∃ x, x = wr.heap.size := ⟨_, rfl⟩
        rw [← hbX] at h6
        rw [← hbX]
        have H6 := Lib.hid h6
        clear h6 hw5 hbX H5 hc2
        go_wp2_with fail
        go_loopg [14, 15] 4 (fun g v _ wr => ∃ j : Nat, j ≤ 4 ∧ g = 4 - j ∧ v = .int .i64 j ∧ HH w wr [(w.heap.size, rowO 24 [.slice (some ⟨bS, oS, none⟩) S.length cS, .slice (some ⟨bM, oM, none⟩) M.length cM, .int .i64 L]), (w.heap.size + 1, rowO 24 [.slice none 0 0, .slice none 0 0, .int .i64 0]), (bQ, rowO 3 (ints (tq (pS S c) c))), (bE, rowO 3 (ints (enT M (pS S c) c S.length (4 * S.length)))), (bN, rowO 4 (bools (sn (U j) c))), (bX, rowO 24 [.slice none 0 0, .slice none 0 0, .int .i64 (L + ((kk j : Nat) : Int))])] [])
        case atStart => exact ⟨0, Nat.zero_le _, rfl, rfl, H6.out⟩
        case round =>
          clear H6
          obtain ⟨j, hj, rfl, rfl, hk⟩ := hrel
          have Hk := Lib.hid hk
          clear hk
          by_cases hj4 : j < 4
          · obtain ⟨hs1, hs2⟩ := HRA.out j hj4
            have hn0 := Hk.out.bool (k := 4) rfl j (by rw [sn_len]; exact hj4)
            rw [sn_j _ _ _ hj4] at hn0
            have hkj := Hkb.out j hj4
            cases hu : U j (4 * c + j)
            · rw [hu] at hn0
              obtain ⟨hk1, R, hR2, hR3, hR4, hR5, hUe⟩ := hs2 hu
              have HRun := Lib.hid (And.intro hR3 (And.intro hR4 hR5))
              have HUe := Lib.hid hUe
              have Hk1 : Hid (L + ((kk (j + 1) : Nat) : Int) = L + ((kk j : Nat) : Int) + 1) := Lib.hid (by rw [hk1]; omega)
              have hX2 := Hk.out.cell (k := 5) (i := 2) rfl rfl
              have hX3 := Hk.out.frozen (k := 5) rfl 2
              have H6 := Lib.hid (Hk.out.set (k := 5) rfl 2 (.int .i64 (L + ((kk j : Nat) : Int) + 1)))
              clear hs1 hs2 hu hR3 hR4 hR5 hUe hk1 Hk
              have hkj0 : 0 ≤ ((kk j : Nat) : Int) := by omega
              have hkj1 : ((kk j : Nat) : Int) ≤ 2 := by omega
              clear hkj
              generalize ((kk j : Nat) : Int) = kj at *
              go_wp2_with fail
              clear hX2 hX3 hn0
              go_loopg [15] R (fun g v wr => ∃ r : Nat, r ≤ R ∧ g = R - r ∧ v = .int .i64 ((iter (gst M (pS S c)) r (4 * c + j) : Nat) : Int) ∧ HH w wr [(w.heap.size, rowO 24 [.slice (some ⟨bS, oS, none⟩) S.length cS, .slice (some ⟨bM, oM, none⟩) M.length cM, .int .i64 L]), (w.heap.size + 1, rowO 24 [.slice none 0 0, .slice none 0 0, .int .i64 0]), (bQ, rowO 3 (ints (tq (pS S c) c))), (bE, rowO 3 (ints (enT M (pS S c) c S.length (4 * S.length)))), (bN, rowO 4 (bools (sn (uRun M (pS S c) (U j) (4 * c + j) r) c))), (bX, rowO 24 [.slice none 0 0, .slice none 0 0, .int .i64 (L + kj + 1)])] [])
              case atStart => exact ⟨0, Nat.zero_le _, rfl, by show Value.int .i64 _ = .int .i64 (((4 * c + j : Nat)) : Int); go_num, H6.out⟩
              case round =>
                clear H6
                obtain ⟨r, hr, rfl, rfl, hk⟩ := hrel
                have Hk := Lib.hid hk
                clear hk
                by_cases hrR : r < R
                · obtain ⟨hfx, hmc⟩ := HRun.out.1 r hrR
                  have HFx := Lib.hid hfx
                  clear hfx
                  have hil : iter (gst M (pS S c)) r (4 * c + j) < 4 * S.length := by omega
                  have Hnx : Hid (iter (gst M (pS S c)) (r + 1) (4 * c + j) = mt M (jn (pS S c) (iter (gst M (pS S c)) r (4 * c + j))) ∧ uRun M (pS S c) (U j) (4 * c + j) (r + 1) = uAdd (pS S c) (uRun M (pS S c) (U j) (4 * c + j) r) (iter (gst M (pS S c)) r (4 * c + j))) := Lib.hid ⟨rfl, rfl⟩
                  have hjl := jn_lt (p := (pS S c)) hil
                  have hgl := Hm.out.lt hjl
                  have hjc : jn (pS S c) (iter (gst M (pS S c)) r (4 * c + j)) / 4 = c := by rw [jn_div]; exact hmc
                  have Hcz : Hid (∀ W', Below w.heap.size w W' → W'.cell? ⟨bM, oM + jn (pS S c) (iter (gst M (pS S c)) r (4 * c + j)), none⟩ = some (.int .i64 ((mt M (jn (pS S c) (iter (gst M (pS S c)) r (4 * c + j))) : Nat) : Int))) := Lib.hid fun W' hW' => HcM.out W' hW' _ hjl
                  have ht3 : ((iter (gst M (pS S c)) r (4 * c + j) : Nat) : Int) / 4 = (c : Int) := by omega
                  have Htq := Lib.hid (tq_at (pS S c) c (iter (gst M (pS S c)) r (4 * c + j)) hmc)
                  rw [uAdd_updN] at Hnx
                  generalize uRun M (pS S c) (U j) (4 * c + j) r = F at *
                  generalize iter (gst M (pS S c)) r (4 * c + j) = x at *
                  have h6 := Hk.out.setBool (k := 4) rfl (x % 4) true
                  rw [sn_set F c x hmc] at h6
                  have H6 := Lib.hid h6
                  have hn1 := Hk.out.bool (k := 4) rfl (x % 4) (by rw [sn_len]; omega)
                  rw [sn_at F c x hmc, HFx.out] at hn1
                  have hn2 := Hk.out.frozen (k := 4) rfl (x % 4)
                  have hq1 := H6.out.int (k := 2) rfl (x % 4) (by rw [tq_len]; omega)
                  rw [Htq.out] at hq1
                  generalize jn (pS S c) x = y at *
                  have h7 := H6.out.setBool (k := 4) rfl (y % 4) true
                  rw [sn_set _ c y hjc] at h7
                  have H7 := Lib.hid h7
                  have hn3 := H6.out.bool (k := 4) rfl (y % 4) (by rw [sn_len]; omega)
                  have hn4 := H6.out.frozen (k := 4) rfl (y % 4)
                  have hb1 := H7.out.cell (k := 0) (i := 1) rfl rfl
                  have hcz := Hcz.out _ H7.out.below
                  clear h6 h7 hmc hjc
                  generalize mt M y = z at *
                  generalize bth (sn (updN F x true) c) (y % 4) = o2 at *
                  obtain ⟨s1, hs1⟩ : ∃ s, s = x % 4 := ⟨_, rfl⟩
                  obtain ⟨s2, hs2⟩ : ∃ s, s = y % 4 := ⟨_, rfl⟩
                  have e1 : (x : Int) % 4 = (s1 : Int) := by omega
                  have e2 : (x : Int).tmod 4 = (s1 : Int) := by rw [Int.tmod_eq_emod_of_nonneg (by omega)]; exact e1
                  have e3 : (y : Int) % 4 = (s2 : Int) := by omega
                  have e4 : (y : Int).tmod 4 = (s2 : Int) := by rw [Int.tmod_eq_emod_of_nonneg (by omega)]; exact e3
                  have e5 : s1 < 4 := by omega
                  have e6 : s2 < 4 := by omega
                  rw [← hs1] at hn1 hn2 hq1 H6 H7
                  rw [← hs1] at hn3 hn4 hb1 hcz
                  rw [← hs2] at hn3 hn4 H7 hb1 hcz
                  clear hs1 hs2 Htq
                  go_wp2_with fail
                  go_roundg (R - (r + 1))
                  case measure => omega
                  case rel => exact ⟨r + 1, by omega, rfl, by rw [Hnx.out.1], by rw [Hnx.out.2]; exact H7.out⟩
                · obtain rfl : R = r := by omega
                  obtain ⟨hfx, hmc⟩ := HRun.out.2
                  have hk7 := Hk.out
                  rw [← HUe.out, ← Hk1.out] at hk7
                  have H7 := Lib.hid hk7
                  have hil : iter (gst M (pS S c)) R (4 * c + j) < 4 * S.length := by omega
                  have hn1 := Hk.out.bool (k := 4) rfl (iter (gst M (pS S c)) R (4 * c + j) % 4) (by rw [sn_len]; omega)
                  rw [sn_at _ c _ hmc, hfx] at hn1
                  generalize iter (gst M (pS S c)) R (4 * c + j) = x at *
                  obtain ⟨s1, hs1⟩ : ∃ s, s = x % 4 := ⟨_, rfl⟩
                  have e1 : (x : Int) % 4 = (s1 : Int) := by omega
                  have e2 : (x : Int).tmod 4 = (s1 : Int) := by rw [Int.tmod_eq_emod_of_nonneg (by omega)]; exact e1
                  have e5 : s1 < 4 := by omega
                  rw [← hs1] at hn1
                  clear hs1 hmc hfx hk7
                  go_wp2_with fail
                  go_roundg (4 - (j + 1))
                  case measure => omega
                  case rel => exact ⟨j + 1, by omega, rfl, by go_num, H7.out⟩
            · rw [hu] at hn0
              obtain ⟨hk1, hk2⟩ := hs1 hu
              have h7 := Hk.out
              rw [← hk1, ← hk2] at h7
              have H7 := Lib.hid h7
              clear hs1 hs2 hu hk1 hk2 h7
              go_wp2_with fail
              go_roundg (4 - (j + 1))
              case measure => omega
              case rel => exact ⟨j + 1, by omega, rfl, by go_num, H7.out⟩
          · obtain rfl : j = 4 := by omega
            have hk7 := Hk.out
            rw [Hk4.out] at hk7
            generalize hnlg : ((newL M (pS S c) c : Nat) : Int) = nl at *
            have hnl0 : 0 ≤ nl := by omega
            have hnl1 : nl ≤ 2 := by omega
            clear hnlg hnl
            have H7 : Hid (HH w wr [(w.heap.size, rowO 24 [.slice (some ⟨bS, oS, none⟩) S.length cS, .slice (some ⟨bM, oM, none⟩) M.length cM, .int .i64 L]), (w.heap.size + 1, rowO 24 [.slice none 0 0, .slice none 0 0, .int .i64 0]), (bQ, rowO 3 (ints (tq (pS S c) c))), (bE, rowO 3 (ints (enT M (pS S c) c S.length (4 * S.length)))), (bN, rowO 4 (bools (sn (U 4) c))), (bX, rowO 24 [.slice none 0 0, .slice none 0 0, .int .i64 (L + nl)])] [⟨none, 0, 3, ints []⟩, ⟨none, 0, 3, ints []⟩]) := Lib.hid ((hk7.addNil 3).addNil 3)
            obtain ⟨i0, hi, hz0, hz1, hz2⟩ := info_parts Try.info3
            have Hen := Lib.hid (enT_at M (pS S c) c S.length)
            have HsS := Lib.hid (woS_all S c hc)
            have HsM := Lib.hid (woM_all S M c hc)
            clear hk7 Hk Hk0 HU0 Hkb HRA Hk4
            obtain ⟨wq, rfl⟩ : ∃ x, x = wr := ⟨_, rfl⟩
            go_wp2_with fail
            go_loopg [16, 17, 18] S.length (fun gg v _ _ wr => ∃ (k : Nat) (a1 a2 : Option Addr) (c1 c2 : Nat), k ≤ S.length ∧ gg = S.length - k ∧ v = .int .i64 k ∧ HH w wr [(w.heap.size, rowO 24 [.slice (some ⟨bS, oS, none⟩) S.length cS, .slice (some ⟨bM, oM, none⟩) M.length cM, .int .i64 L]), (w.heap.size + 1, rowO 24 [.slice none 0 0, .slice none 0 0, .int .i64 0]), (bQ, rowO 3 (ints (tq (pS S c) c))), (bE, rowO 3 (ints (enT M (pS S c) c S.length (4 * S.length)))), (bN, rowO 4 (bools (sn (U 4) c))), (bX, rowO 24 [.slice a1 (woS S c k).length c1, .slice a2 (woM (fun h => thr M (pS S c) c (mt M h)) c k).length c2, .int .i64 (L + nl)])] [⟨a1, c1, 3, ints (woS S c k)⟩, ⟨a2, c2, 3, ints (woM (fun h => thr M (pS S c) c (mt M h)) c k)⟩])
            case atStart => exact ⟨0, none, none, 0, 0, Nat.zero_le _, rfl, rfl, H7.out⟩
            case round =>
              clear H7
              obtain ⟨k, a1, a2, c1, c2, hk, rfl, rfl, hh⟩ := hrel
              have Hh := Lib.hid hh
              clear hh
              have hc0 := Hh.out.cell (k := 0) (i := 0) rfl rfl
              by_cases hkl : k < S.length
              · have hcc := HcS.out wr Hh.out.below k hkl
                by_cases hkc : k = c
                · have Hs : Hid (woS S c (k + 1) = woS S c k ∧ woM (fun h => thr M (pS S c) c (mt M h)) c (k + 1) = woM (fun h => thr M (pS S c) c (mt M h)) c k) := Lib.hid ⟨if_pos hkc, if_pos hkc⟩
                  subst hkc
                  generalize nth S k = sk at *
                  go_wp2_with fail
                  go_roundg (S.length - (k + 1))
                  case measure => omega
                  case rel => exact ⟨k + 1, a1, a2, c1, c2, by omega, rfl, by go_num, by rw [Hs.out.1, Hs.out.2]; exact Hh.out⟩
                · have hk1 : ¬ ((k : Int) = (c : Int)) := by omega
                  have hk2 : ((k : Int) == (c : Int)) = false := by rw [beq_eq_false_iff_ne]; exact hk1
                  have hk3 : ((k : Int) != (c : Int)) = true := by rw [bne_iff_ne]; exact hk1
                  have Hs : Hid (woS S c (k + 1) = woS S c k ++ [nth S k] ∧ woM (fun h => thr M (pS S c) c (mt M h)) c (k + 1) = woM (fun h => thr M (pS S c) c (mt M h)) c k ++ woR (fun h => thr M (pS S c) c (mt M h)) c k 4) := Lib.hid ⟨if_neg hkc, if_neg hkc⟩
                  have Hkc := Lib.hid hkc
                  clear hkc
                  have hs1 : (woS S c k).length ≤ k := by rw [woS_len]; split <;> omega
                  have hs2 : (woM (fun h => thr M (pS S c) c (mt M h)) c k).length ≤ 4 * k := by rw [woM_len]; split <;> omega
                  have HcK : Hid (∀ W', Below w.heap.size w W' → W'.cell? ⟨bS, oS + k, none⟩ = some (.int .i64 (nth S k))) := Lib.hid fun W' h => HcS.out W' h k hkl
                  generalize nth S k = sk at *
                  generalize woS S c k = xs at *
                  generalize woM (fun h => thr M (pS S c) c (mt M h)) c k = ys at *
                  have Hd := Lib.hid Hh.out.drew
                  have Ha := Lib.hid ((Hh.out.call ((Below.refl _ _).alloc (Nat.le_refl _) (.cells #[.int .i64 sk] 3))).drew)
                  have Hc1 : Hid ((wr.alloc (.cells #[.int .i64 sk] 3)).drew.cell? ⟨wr.heap.size, 0, none⟩ = some (.int .i64 sk)) := Lib.hid ((Row.new wr #[.int .i64 sk] 3).cell 0)
                  have Hl1 : Hid (w.heap.size ≤ (wr.alloc (.cells #[.int .i64 sk] 3)).drew.heap.size) := Lib.hid Ha.out.below.size
                  have Hn1 : Hid ((ints xs).length = xs.length) := Lib.hid (by rw [ints_length])
                  have hX0 := Hd.out.cell (k := 5) (i := 0) rfl rfl
                  have hX1 := Ha.out.cell (k := 5) (i := 0) rfl rfl
                  have hkb0 : (0 : Int) ≤ (k : Int) := by omega
                  have hkb1 : (k : Int) < (S.length : Int) := by omega
                  go_wp2_with fail
                  clear hcc hc0
                  have hY0 := Hd.out.cell (k := 0) (i := 0) rfl rfl
                  have hY1 := HcK.out _ Hd.out.below
                  go_region_law ((refine step_append_one rfl (.tmp 153) (.tmp 159) rfl w.heap.size i0 hi hz0 hz1 hz2 a1 xs.length c1 (ints xs) rfl Hn1.out (Ha.out.sl (k := 0) rfl) ⟨wr.heap.size, 0, none⟩ 1 (.int .i64 sk) rfl Hc1.out rfl (by omega) Hl1.out ?_); intro A2 e2 w2 hO2 hT2 hA2; have H2 := Ha.out.grow (k := 0) rfl hO2 hT2 hA2; have hd := H2.cell (k := 5) (i := 0) rfl rfl; have hf := H2.frozen (k := 5) rfl 0; have H3 := Lib.hid (H2.set (k := 5) rfl 0 (.slice A2 (xs.length + 1) e2)); have HG2 := Lib.hid H2; clear H2 hO2 hT2 hA2 hX0 hX1 hY0 hY1)
                  all_goals
                    clear hd hf HG2 Ha Hc1 Hl1 Hn1 Hd
                    have H4 : Hid (HH w (w2.setCell ⟨bX, 0, none⟩ (.slice A2 (xs.length + 1) e2)) [(w.heap.size, rowO 24 [.slice (some ⟨bS, oS, none⟩) S.length cS, .slice (some ⟨bM, oM, none⟩) M.length cM, .int .i64 L]), (w.heap.size + 1, rowO 24 [.slice none 0 0, .slice none 0 0, .int .i64 0]), (bQ, rowO 3 (ints (tq (pS S c) c))), (bE, rowO 3 (ints (enT M (pS S c) c S.length (4 * S.length)))), (bN, rowO 4 (bools (sn (U 4) c))), (bX, rowO 24 [.slice A2 (xs ++ [sk]).length e2, .slice a2 ys.length c2, .int .i64 (L + nl)])] [⟨A2, e2, 3, ints (xs ++ [sk])⟩, ⟨a2, c2, 3, ints ys⟩]) := Lib.hid (by
                      have h := H3.out
                      rw [ints_snoc] at h
                      rw [List.length_append]; exact h)
                    clear H3
                    obtain ⟨w3, hw3⟩ : ∃ x, x = w2.setCell ⟨bX, 0, none⟩ (.slice A2 (xs.length + 1) e2) := ⟨_, rfl⟩
                    rw [← hw3] at H4
                    rw [← hw3]
                    clear hw3
                    go_wp2_with fail
                    go_loopg [17, 18] 4 (fun gg v _ wi => ∃ (s : Nat) (b2 : Option Addr) (d2 : Nat), s ≤ 4 ∧ gg = 4 - s ∧ v = .int .i64 s ∧ HH w wi [(w.heap.size, rowO 24 [.slice (some ⟨bS, oS, none⟩) S.length cS, .slice (some ⟨bM, oM, none⟩) M.length cM, .int .i64 L]), (w.heap.size + 1, rowO 24 [.slice none 0 0, .slice none 0 0, .int .i64 0]), (bQ, rowO 3 (ints (tq (pS S c) c))), (bE, rowO 3 (ints (enT M (pS S c) c S.length (4 * S.length)))), (bN, rowO 4 (bools (sn (U 4) c))), (bX, rowO 24 [.slice A2 (xs ++ [sk]).length e2, .slice b2 (ys ++ woR (fun h => thr M (pS S c) c (mt M h)) c k s).length d2, .int .i64 (L + nl)])] [⟨A2, e2, 3, ints (xs ++ [sk])⟩, ⟨b2, d2, 3, ints (ys ++ woR (fun h => thr M (pS S c) c (mt M h)) c k s)⟩])
                    case atStart => exact ⟨0, a2, c2, Nat.zero_le _, rfl, rfl, by rw [show woR (fun h => thr M (pS S c) c (mt M h)) c k 0 = [] from rfl, List.append_nil]; exact H4.out⟩
                    case round =>
                      clear H4 Hh
                      obtain ⟨s, b2, d2, hs, rfl, rfl, hh⟩ := hrel
                      have Hh := Lib.hid hh
                      clear hh
                      by_cases hs4 : s < 4
                      · have hcm := Hh.out.int (k := 3) rfl (4 * k + s) (by rw [enT_len]; omega)
                        rw [Hen.out (4 * k + s) (by omega) (by have := Hkc.out; omega)] at hcm
                        have g2 := thr_lt (p := (pS S c)) (c := c) Hm.out (Hm.out.lt (x := 4 * k + s) (by omega))
                        have Hr : Hid (ys ++ woR (fun h => thr M (pS S c) c (mt M h)) c k (s + 1) = (ys ++ woR (fun h => thr M (pS S c) c (mt M h)) c k s) ++ [((dn c (thr M (pS S c) c (mt M (4 * k + s))) : Nat) : Int)]) := Lib.hid (by rw [woR, List.append_assoc])
                        have hrl : (ys ++ woR (fun h => thr M (pS S c) c (mt M h)) c k s).length ≤ 4 * k + 4 := by rw [List.length_append, woR_len]; omega
                        have hix : (((4 * k + s : Nat) : Int)) = 4 * (k : Int) + (s : Int) := by omega
                        have hb1 := Hh.out.cell (k := 5) (i := 1) rfl rfl
                        generalize thr M (pS S c) c (mt M (4 * k + s)) = m at *
                        generalize ys ++ woR (fun h => thr M (pS S c) c (mt M h)) c k s = zs at *
                        clear hix
                        by_cases hgt : m / 4 > c
                        · have hd : dn c m = m - 4 := if_pos hgt
                          have ht1 : decide ((c : Int) < (m : Int) / 4) = true := decide_eq_true (by omega)
                          have hm4 : 4 ≤ m := by omega
                          have Hdd : Hid (((dn c m : Nat) : Int) = (m : Int) - 4) := Lib.hid (by omega)
                          clear hd hgt
                          have Ha1 := Lib.hid (Hh.out.call ((Below.refl _ _).alloc (Nat.le_refl _) (.cells #[.int .i64 ((m : Int) - 4)] 3)))
                          have Hc1 : Hid ((wr.alloc (.cells #[.int .i64 ((m : Int) - 4)] 3)).cell? ⟨wr.heap.size, 0, none⟩ = some (.int .i64 ((m : Int) - 4))) := Lib.hid ((Row.new wr #[.int .i64 ((m : Int) - 4)] 3).cell 0)
                          have Hl1 : Hid (w.heap.size ≤ (wr.alloc (.cells #[.int .i64 ((m : Int) - 4)] 3)).heap.size) := Lib.hid Ha1.out.below.size
                          have Hn1 : Hid ((ints zs).length = zs.length) := Lib.hid (by rw [ints_length])
                          go_wp2_with (with_reducible refine wpList_append_one rfl (.tmp 180) (.tmp 182) 22 rfl w.heap.size 3 i0 (.int .i64 0) 8 Try.underlying22 hi hz0 hz1 hz2 rfl b2 zs.length d2 (ints zs) rfl Hn1.out (Ha1.out.sl (k := 1) rfl) _ 1 (.int .i64 ((m : Int) - 4)) rfl Hc1.out rfl (by omega) (by omega) Hl1.out ?_; intro A3 c3 w3 hO2 hT2 hA2; have H2 := Ha1.out.grow (k := 1) rfl hO2 hT2 hA2; have hd := H2.cell (k := 5) (i := 1) rfl rfl; have hf := H2.frozen (k := 5) rfl 1; have H3 := Lib.hid (H2.set (k := 5) rfl 1 (.slice A3 (zs.length + 1) c3)); clear H2 hO2 hT2 hA2)
                          go_roundg (4 - (s + 1))
                          case measure => omega
                          case rel =>
                            refine ⟨s + 1, A3, c3, by omega, rfl, by go_num, ?_⟩
                            have h := H3.out
                            rw [ints_snoc] at h
                            rw [Hr.out, Hdd.out, show (zs ++ [(m : Int) - 4]).length = zs.length + 1 from List.length_append]; exact h
                        · have hd : dn c m = m := if_neg hgt
                          have ht1 : decide ((c : Int) < (m : Int) / 4) = false := decide_eq_false (by omega)
                          have Hdd : Hid (((dn c m : Nat) : Int) = (m : Int)) := Lib.hid (by omega)
                          clear hd hgt
                          have Ha1 := Lib.hid (Hh.out.call ((Below.refl _ _).alloc (Nat.le_refl _) (.cells #[.int .i64 ((m : Int))] 3)))
                          have Hc1 : Hid ((wr.alloc (.cells #[.int .i64 ((m : Int))] 3)).cell? ⟨wr.heap.size, 0, none⟩ = some (.int .i64 ((m : Int)))) := Lib.hid ((Row.new wr #[.int .i64 ((m : Int))] 3).cell 0)
                          have Hl1 : Hid (w.heap.size ≤ (wr.alloc (.cells #[.int .i64 ((m : Int))] 3)).heap.size) := Lib.hid Ha1.out.below.size
                          have Hn1 : Hid ((ints zs).length = zs.length) := Lib.hid (by rw [ints_length])
                          go_wp2_with (with_reducible refine wpList_append_one rfl (.tmp 180) (.tmp 182) 22 rfl w.heap.size 3 i0 (.int .i64 0) 8 Try.underlying22 hi hz0 hz1 hz2 rfl b2 zs.length d2 (ints zs) rfl Hn1.out (Ha1.out.sl (k := 1) rfl) _ 1 (.int .i64 ((m : Int))) rfl Hc1.out rfl (by omega) (by omega) Hl1.out ?_; intro A3 c3 w3 hO2 hT2 hA2; have H2 := Ha1.out.grow (k := 1) rfl hO2 hT2 hA2; have hd := H2.cell (k := 5) (i := 1) rfl rfl; have hf := H2.frozen (k := 5) rfl 1; have H3 := Lib.hid (H2.set (k := 5) rfl 1 (.slice A3 (zs.length + 1) c3)); clear H2 hO2 hT2 hA2)
                          go_roundg (4 - (s + 1))
                          case measure => omega
                          case rel =>
                            refine ⟨s + 1, A3, c3, by omega, rfl, by go_num, ?_⟩
                            have h := H3.out
                            rw [ints_snoc] at h
                            rw [Hr.out, Hdd.out, show (zs ++ [(m : Int)]).length = zs.length + 1 from List.length_append]; exact h
                      · obtain rfl : s = 4 := by omega
                        go_wp2_with fail
                        go_roundg (S.length - (k + 1))
                        case measure => omega
                        case rel => exact ⟨k + 1, A2, b2, e2, d2, by omega, rfl, by go_num, by rw [Hs.out.1, Hs.out.2]; exact Hh.out⟩
              · obtain rfl : k = S.length := by omega
                have hh := Hh.out
                rw [HsS.out, HsM.out] at hh
                have hb0 := hh.cell (k := 5) (i := 0) rfl rfl
                have hb1 := hh.cell (k := 5) (i := 1) rfl rfl
                have hb2 := hh.cell (k := 5) (i := 2) rfl rfl
                have hd0 := hh.cell (k := 1) (i := 0) rfl rfl
                have hd1 := hh.cell (k := 1) (i := 1) rfl rfl
                have hd2 := hh.cell (k := 1) (i := 2) rfl rfl
                have hf0 := hh.frozen (k := 1) rfl 0
                have hf1 := hh.frozen (k := 1) rfl 1
                have hf2 := hh.frozen (k := 1) rfl 2
                have H6 := ((hh.set (k := 1) rfl 0 (.slice a1 (smS S c).length c1)).set (k := 1) rfl 1 (.slice a2 (smM S M c).length c2)).set (k := 1) rfl 2 (.int .i64 (L + nl))
                have hF0 := H6.cell (k := 1) (i := 0) rfl rfl
                have hF1 := H6.cell (k := 1) (i := 1) rfl rfl
                have hF2 := H6.cell (k := 1) (i := 2) rfl rfl
                have Hfin := Lib.hid (And.intro (H6.sl (k := 0) rfl) (And.intro (H6.sl (k := 1) rfl) H6.below))
                clear H6 hh
                go_wp2_with fail
                refine bodyPost_ret (v := .agg #[.slice a1 (smS S c).length c1, .slice a2 (smM S M c).length c2, .int .i64 (L + nl)]) (by simp [results, Try.results60, go_sem, hF0, hF1, hF2]) rfl ?_
                exact ⟨a1, a2, c1, c2, rfl, Hfin.out⟩
end Go.Proofs.Ytkopbcehfbmnmaa
