/- Plain laws: a crossing smoothed: the new loops, the components, the writhe; it is a diagram again. -/
import Derived.Test.YtkopbcehfbmnmaaSmoothA
import Derived.Test.YtkopbcehfbmnmaaMirA
namespace Go.Proofs.Ytkopbcehfbmnmaa
open Go Go.RowKit
/-- The parity of the half-edges that are joined with the next slot. -/
def pS (S : List Int) (c : Nat) : Nat := if nth S c = -1 then 1 else 0
theorem pS_pp (S : List Int) (c : Nat) : pS S c = 0 ∨ pS S c = 1 := by unfold pS; split <;> simp
theorem jn_0 (p c : Nat) : jn p (4 * c) = if p = 0 then 4 * c + 1 else 4 * c + 3 := by
  unfold jn tn
  by_cases h : p = 0
  · rw [if_pos (by omega), if_pos h]; omega
  · rw [if_neg (by omega), if_neg h]; omega
theorem jn_2 (p c : Nat) : jn p (4 * c + 2) = if p = 0 then 4 * c + 3 else 4 * c + 1 := by
  unfold jn tn
  by_cases h : p = 0
  · rw [if_pos (by omega), if_pos h]; omega
  · rw [if_neg (by omega), if_neg h]; omega
/-- How many new loops there are. -/
def newL (M : List Int) (p c : Nat) : Nat := (if inn M p c (4 * c) = true then 1 else 0) + (if inn M p c (4 * c + 2) = true ∧ ¬ (inn M p c (4 * c) = true ∧ mt M (4 * c) ≠ jn p (4 * c)) then 1 else 0)
section
variable {M : List Int} {n p c : Nat} (hm : Mates M n) (hp : p = 0 ∨ p = 1) (hc : c < n)
include hm hp hc
omit hm hc in
theorem jd_at {z : Nat} (hz : z / 4 = c) : Jd M p c z (4 * c) ∨ Jd M p c z (4 * c + 2) := by
  have t2 : tn (4 * c) 2 = 4 * c + 2 := by unfold tn; omega
  rcases four_of p (y := 4 * c) (z := z) (by omega) with e | e | e | e
  · rw [e]; exact .inl (Jd.refl _)
  · rw [e]
    have := (Jd.refl (M := M) (p := p) (c := c) (jn p (4 * c))).join (by rw [jn_div]; omega)
    rw [jn_jn hp] at this
    exact .inl this
  · rw [e, t2]; exact .inr (Jd.refl _)
  · rw [e, ← jn_tn2, t2]
    have := (Jd.refl (M := M) (p := p) (c := c) (jn p (4 * c + 2))).join (by rw [jn_div]; omega)
    rw [jn_jn hp] at this
    exact .inr this
theorem newL_nc : nc (Jd M p c) (inn M p c) (4 * n) = newL M p c := by
  have hE := Jd.eqv (c := c) hm hp
  have h0 : 4 * c < 4 * n := by omega
  have h2 : 4 * c + 2 < 4 * n := by omega
  have t2 : tn (4 * c) 2 = 4 * c + 2 := by unfold tn; omega
  have hc0 : (4 * c) / 4 = c := by omega
  have hinv : ∀ x y, x < 4 * n → y < 4 * n → Jd M p c x y → inn M p c x = true → inn M p c y = true := fun x y hx _ h hi => by rw [inn_eq hm hp hx h]; exact hi
  unfold newL
  by_cases hA : inn M p c (4 * c) = true
  · rw [if_pos hA]
    by_cases hk : mt M (4 * c) = jn p (4 * c)
    · by_cases hB : inn M p c (4 * c + 2) = true
      · rw [if_pos ⟨hB, fun e => e.2 hk⟩]
        have hq : ∀ x y, x < 4 * n → Jd M p c x y → inn M p c x = true → (x = 4 * c ∨ x = jn p (4 * c)) → (y = 4 * c ∨ y = jn p (4 * c)) := fun x y hx h hi hx2 => by
          rcases hx2 with e | e
          · rw [e] at h hi
            exact (loop_of hm hp h0 hi h).2 hk
          · have hmx : mt M x = jn p x := by
              rw [e, jn_jn hp, ← hk, hm.inv h0]
            rcases (loop_of hm hp hx hi h).2 hmx with g | g
            · exact .inr (g.trans e)
            · rw [e, jn_jn hp] at g; exact .inl g
        rw [nc_split _ _ (fun x => decide (x = 4 * c ∨ x = jn p (4 * c)))]
        have e1 : nc (Jd M p c) (fun x => inn M p c x && decide (x = 4 * c ∨ x = jn p (4 * c))) (4 * n) = 1 := by
          refine nc_one hE h0 (by rw [hA, decide_eq_true (.inl rfl)]; rfl) (fun x y hx hy h hpx => ?_) (fun x hx hpx => ?_)
          · rw [Bool.and_eq_true, decide_eq_true_eq] at hpx ⊢
            exact ⟨hinv x y hx hy h hpx.1, hq x y hx h hpx.1 hpx.2⟩
          · rw [Bool.and_eq_true, decide_eq_true_eq] at hpx
            rcases hpx.2 with e | e
            · rw [e]; exact Jd.refl _
            · rw [e]
              have := (Jd.refl (M := M) (p := p) (c := c) (jn p (4 * c))).join (by rw [jn_div]; omega)
              rwa [jn_jn hp] at this
        have e2 : nc (Jd M p c) (fun x => inn M p c x && !decide (x = 4 * c ∨ x = jn p (4 * c))) (4 * n) = 1 := by
          refine nc_one hE h2 ?_ (fun x y hx hy h hpx => ?_) (fun x hx hpx => ?_)
          · rw [hB, decide_eq_false (by
              have := jn_par p (4 * c)
              omega)]; rfl
          · rw [Bool.and_eq_true, Bool.not_eq_true', decide_eq_false_iff_not] at hpx ⊢
            exact ⟨hinv x y hx hy h hpx.1, fun e => hpx.2 (hq y x hy (h.symm hm hp hx) (hinv x y hx hy h hpx.1) e)⟩
          · rw [Bool.and_eq_true, Bool.not_eq_true', decide_eq_false_iff_not] at hpx
            rcases jd_at hp (inn_iff.1 hpx.1).1 with g | g
            · exact absurd (hq (4 * c) x h0 (g.symm hm hp hx) hA (.inl rfl)) hpx.2
            · exact g
        rw [e1, e2]
      · rw [if_neg (fun e => hB e.1)]
        refine nc_one hE h0 hA hinv (fun x hx hi => ?_)
        rcases jd_at hp (inn_iff.1 hi).1 with g | g
        · exact g
        · exact absurd (hinv x _ hx h2 g hi) hB
    · rw [if_neg (fun e => e.2 ⟨hA, hk⟩)]
      have h02 : Jd M p c (4 * c + 2) (4 * c) := by
        rcases (inn_iff.1 hA).2 with e | e
        · exact absurd e hk
        · have := (Jd.refl (M := M) (p := p) (c := c) (4 * c)).mate
          rw [e.1, t2] at this
          exact this.symm hm hp h0
      refine nc_one hE h0 hA hinv (fun x hx hi => ?_)
      rcases jd_at hp (inn_iff.1 hi).1 with g | g
      · exact g
      · exact g.trans h02
  · rw [if_neg hA]
    by_cases hB : inn M p c (4 * c + 2) = true
    · rw [if_pos ⟨hB, fun e => hA e.1⟩]
      refine nc_one hE h2 hB hinv (fun x hx hi => ?_)
      rcases jd_at hp (inn_iff.1 hi).1 with g | g
      · exact absurd (hinv x _ hx h0 g hi) hA
      · exact g
    · rw [if_neg (fun e => hB e.1)]
      refine nc_none fun x hx => ?_
      rw [Bool.eq_false_iff]
      intro hi
      rcases jd_at hp (inn_iff.1 hi).1 with g | g
      · exact hA (hinv x _ hx h0 g hi)
      · exact hB (hinv x _ hx h2 g hi)
omit hm hp hc in
theorem newL_le (M : List Int) (p c : Nat) : newL M p c ≤ 2 := by unfold newL; split <;> split <;> omega
end
/-- A list without one element. -/
def del (c i : Nat) : Nat := if i < c then i else i + 1
theorem nth_erase (S : List Int) (c i : Nat) : nth (S.eraseIdx c) i = nth S (del c i) := by
  unfold nth del
  rw [List.getD_eq_getElem?_getD, List.getD_eq_getElem?_getD, List.getElem?_eraseIdx]
  split <;> rfl
theorem wsum_del (f : Nat → Int) (c : Nat) : ∀ n, c < n → wsum f n = wsum (fun i => f (del c i)) (n - 1) + f c := by
  intro n
  induction n with
  | zero => intro h; omega
  | succ m ih =>
    intro h
    have e0 : wsum f (m + 1) = wsum f m + f m := rfl
    rw [e0]
    by_cases e : c = m
    · subst e
      rw [show c + 1 - 1 = c from rfl]
      rw [wsum_congr (g := fun i => f (del c i)) (h := f) (k := c)]
      intro i hi
      show f (del c i) = f i
      unfold del; rw [if_pos hi]
    · rw [ih (by omega), show m + 1 - 1 = (m - 1) + 1 from by omega]
      have e1 : wsum (fun i => f (del c i)) (m - 1 + 1) = wsum (fun i => f (del c i)) (m - 1) + f (del c (m - 1)) := rfl
      rw [e1]
      have e2 : del c (m - 1) = m := by unfold del; rw [if_neg (by omega)]; omega
      rw [e2]; omega
/-- What mirror.Smooth computes. -/
def smS (S : List Int) (c : Nat) : List Int := S.eraseIdx c
def smM (S M : List Int) (c : Nat) : List Int := (List.range (4 * (S.length - 1))).map fun h => ((dn c (thr M (pS S c) c (mt M (up c h))) : Nat) : Int)
theorem smS_len (S : List Int) (c : Nat) (hc : c < S.length) : (smS S c).length = S.length - 1 := by unfold smS; rw [List.length_eraseIdx_of_lt hc]
theorem smM_len (S M : List Int) (c : Nat) : (smM S M c).length = 4 * (S.length - 1) := by simp [smM]
theorem nth_smM (S M : List Int) (c h : Nat) (hh : h < 4 * (S.length - 1)) : nth (smM S M c) h = ((dn c (thr M (pS S c) c (mt M (up c h))) : Nat) : Int) := by simp [smM, nth, hh]
theorem smS_out (S : List Int) (c x : Nat) : outB (smS S c) x = outB S (up c x) := by
  have h1 : up c x % 4 = x % 4 := by unfold up; split <;> omega
  have h2 : up c x / 4 = del c (x / 4) := by unfold up del; split <;> omega
  rw [outB_slot, outB_slot, h1, h2]
  unfold smS
  rw [nth_erase]
theorem smS_wr (S : List Int) (c : Nat) (hc : c < S.length) : wr (smS S c) = wr S - nth S c := by
  unfold wr
  rw [smS_len S c hc, wsum_del (nth S) c S.length hc]
  rw [wsum_congr (g := nth (smS S c)) (h := fun i => nth S (del c i)) fun i _ => nth_erase S c i]
  omega
section
variable {S M : List Int} {L : Int} (hs : Shape S M L) {c : Nat} (hc : c < S.length)
include hs hc
omit hs in
theorem sm_sm : Sm M (smM S M c) S.length (pS S c) c := ⟨hc, pS_pp S c, fun h hh => nth_smM S M c h hh⟩
theorem out_jn {x : Nat} (hxc : x / 4 = c) : outB S (jn (pS S c) x) = !(outB S x) := by
  have hd : jn (pS S c) x / 4 = x / 4 := jn_div _ _
  rw [outB_slot, outB_slot, hd, hxc]
  have hq : jn (pS S c) x % 4 = if x % 2 = pS S c then (x + 1) % 4 else (x + 3) % 4 := by
    unfold jn tn
    split <;> omega
  rw [hq]
  unfold pS
  rcases hs.sign c hc with g | g <;> rw [g] <;>
    rcases (show (x % 4 = 0 ∧ x % 2 = 0 ∧ (x + 1) % 4 = 1 ∧ (x + 3) % 4 = 3) ∨ (x % 4 = 1 ∧ x % 2 = 1 ∧ (x + 1) % 4 = 2 ∧ (x + 3) % 4 = 0) ∨ (x % 4 = 2 ∧ x % 2 = 0 ∧ (x + 1) % 4 = 3 ∧ (x + 3) % 4 = 1) ∨ (x % 4 = 3 ∧ x % 2 = 1 ∧ (x + 1) % 4 = 0 ∧ (x + 3) % 4 = 2) from by omega) with ⟨e1, e2, e3, e4⟩ | ⟨e1, e2, e3, e4⟩ | ⟨e1, e2, e3, e4⟩ | ⟨e1, e2, e3, e4⟩ <;> rw [e1, e2, e3, e4] <;> decide
theorem sm_way : Way M S.length (pS S c) c (outB S) := ⟨fun _ hx => hs.out_mt hx, fun _ _ hxc => out_jn hs hc hxc, fun x hx => hs.out_tn2 x hx⟩
theorem out_thr {m : Nat} (hm : m < 4 * S.length) : outB S (thr M (pS S c) c m) = outB S m := by
  unfold thr
  split
  · rename_i h1
    have hj : jn (pS S c) m < 4 * S.length := jn_lt hm
    have hmj := hs.mt_lt hj
    split
    · rename_i h2
      rw [hs.out_mt (jn_lt hmj), out_jn hs hc h2, hs.out_mt hj, out_jn hs hc h1]
      simp
    · rw [hs.out_mt hj, out_jn hs hc h1]
      simp
  · rfl
theorem sm_valid (hv : vldB S M L = true) (L' : Int) (h0 : 0 ≤ L') (h1 : L' ≤ 64) : vldB (smS S c) (smM S M c) L' = true := by
  have hS := sm_sm (M := M) hc
  have hm := hs.mates2
  have hl := smS_len S c hc
  rw [vldB_iff]
  refine ⟨⟨?_, ?_, h0, h1, fun i hi => ?_, fun h hh => ?_⟩, ?_⟩
  · rw [hl]; have := hs.few; omega
  · rw [smM_len, hl]
  · rw [hl] at hi
    show nth (S.eraseIdx c) i = 1 ∨ nth (S.eraseIdx c) i = -1
    rw [nth_erase]
    exact hs.sign _ (by unfold del; split <;> omega)
  · rw [hl] at hh ⊢
    have hm' := hS.mates hm
    have a1 := hm'.ok.lt h hh
    have a2 := hm'.ok.inv h hh
    have a3 := hm'.ne h hh
    have hu := up_lt (c := c) hh
    refine ⟨a1.1, a1.2, ?_, a2, ?_⟩
    · intro e; exact a3 (by unfold mt; omega)
    · have e1 := hS.up_mate hm hh
      rw [smS_out, smS_out]
      show outB S (up c h) ≠ outB S (up c (mt (smM S M c) h))
      rw [e1, out_thr hs hc (hs.mt_lt hu), hs.out_mt hu]
      cases outB S (up c h) <;> decide
  · rw [hl]; exact hS.sph hm (sm_way hs hc) (vldB_iff.1 hv).2
/-- The strands behind a smoothing, and the new loops. -/
theorem sm_count (hs' : Shape (smS S c) (smM S M c) L) : (leasts (smS S c) (smM S M c)).length + newL M (pS S c) c = if st S M (4 * c + 2) = st S M (4 * c + 1) then (leasts S M).length + 1 else (leasts S M).length - 1 := by
  have hS := sm_sm (M := M) hc
  have hm := hs.mates2
  have hp := pS_pp S c
  have hw := sm_way hs hc
  have hl := smS_len S c hc
  have hcs : Inj (sc M) (4 * S.length) := hs.injS
  have hst := stp_inj hm hp (c := c) 2 (by omega)
  have h0 : 4 * c < 4 * S.length := by omega
  have t2 : tn (4 * c) 2 = 4 * c + 2 := by unfold tn; omega
  have h2 : 4 * c + 2 < 4 * S.length := by omega
  obtain ⟨q, hq⟩ : ∃ q, q = jn (pS S c) (4 * c + 2) := ⟨_, rfl⟩
  have hqc : q / 4 = c := by rw [hq, jn_div]; omega
  have hqN : q < 4 * S.length := by omega
  have hjq : jn (pS S c) q = 4 * c + 2 := by rw [hq, jn_jn hp]
  have hqt : tn q 2 = jn (pS S c) (4 * c) := by rw [hq, ← t2, jn_tn2, tn_22]
  have o0 : outB S (4 * c) = false := outB_0 S _ (by omega)
  have oq : outB S q = false := by rw [hq, out_jn hs hc (by omega), outB_2 S _ (by omega)]; rfl
  have ha := hs.mt_lt h0
  have hb := hs.mt_lt hqN
  have oa : outB S (mt M (4 * c)) = true := by rw [hs.out_mt h0, o0]; rfl
  have ob : outB S (mt M q) = true := by rw [hs.out_mt hqN, oq]; rfl
  have hq0 : q ≠ 4 * c := by rw [hq]; have := jn_par (pS S c) (4 * c + 2); omega
  have hab : mt M (4 * c) ≠ mt M q := fun e => by
    have := congrArg (mt M) e
    rw [hs.mt_mt h0, hs.mt_mt hqN] at this
    exact hq0 this.symm
  have sca : sc M (mt M (4 * c)) = 4 * c + 2 := by
    show tn (mt M (mt M (4 * c))) 2 = _
    rw [hs.mt_mt h0, t2]
  have scb : sc M (mt M q) = jn (pS S c) (4 * c) := by
    show tn (mt M (mt M q)) 2 = _
    rw [hs.mt_mt hqN, hqt]
  have hsI := swp_inj hcs ha hb
  have hPs : ∀ x, x < 4 * S.length → outB S (sc M x) = outB S x := fun x hx => hs.outS x hx
  have hPst : ∀ x, x < 4 * S.length → outB S (stp M (pS S c) c 2 x) = outB S x := fun x hx => by
    have hmx := hs.mt_lt hx
    unfold stp
    split
    · rename_i h; rw [out_jn hs hc h, hs.out_mt hx]; simp
    · rw [hs.out_tn2 _ hmx, hs.out_mt hx]; simp
  have hPo : ∀ x y, x < 4 * S.length → OnOrb (stp M (pS S c) c 2) x y → outB S y = outB S x := by
    rintro x y hx ⟨k, rfl⟩
    induction k with
    | zero => rfl
    | succ k ih => rw [iter_succ, hPst _ (iter_lt _ _ hst.lt k x hx), ih]
  have hsw : ∀ x, x < 4 * S.length → outB S x = true → swp (sc M) (mt M (4 * c)) (mt M q) x = stp M (pS S c) c 2 x := fun x hx hox => by
    by_cases g1 : x = mt M (4 * c)
    · have g2 : mt M x = 4 * c := by rw [g1, hs.mt_mt h0]
      rw [stp_c (by rw [g2]; omega), g2, g1, swp_left, scb]
    · by_cases g2 : x = mt M q
      · have g3 : mt M x = q := by rw [g2, hs.mt_mt hqN]
        rw [stp_c (by rw [g3]; exact hqc), g3, g2, swp_right, sca, hjq]
      · rw [swp_other _ g1 g2]
        by_cases g3 : mt M x / 4 = c
        · exfalso
          have om : outB S (mt M x) = false := by rw [hs.out_mt hx, hox]; rfl
          have g4 : mt M x ≠ 4 * c := fun e => g1 (by rw [← e, hs.mt_mt hx])
          have g5 : mt M x ≠ q := fun e => g2 (by rw [← e, hs.mt_mt hx])
          rcases four_of (pS S c) (y := 4 * c) (z := mt M x) (by omega) with e | e | e | e
          · exact g4 e
          · rw [e, out_jn hs hc (by omega), o0] at om; cases om
          · rw [e, t2, outB_2 S _ (by omega)] at om; cases om
          · rw [← jn_tn2, t2, ← hq] at e; exact g5 e
        · rw [stp_n g3]; rfl
  have hswP : ∀ x, x < 4 * S.length → outB S x = true → outB S (swp (sc M) (mt M (4 * c)) (mt M q) x) = true := fun x hx hox => by rw [hsw x hx hox, hPst x hx]; exact hox
  have hsP : ∀ x y, x < 4 * S.length → OnOrb (swp (sc M) (mt M (4 * c)) (mt M q)) x y → outB S x = true → outB S y = true := fun x y hx ho hox => by
    have := (orb_congr hsI (fun z => outB S z = true) hswP hsw hx hox).1 ho
    rw [hPo x y hx this]; exact hox
  have hFo : nc (OnOrb (stp M (pS S c) c 2)) (outB S) (4 * S.length) = nc (OnOrb (swp (sc M) (mt M (4 * c)) (mt M q))) (outB S) (4 * S.length) := by
    refine Nat.le_antisymm ?_ ?_
    · exact nc_le (orb_eqv hst) (orb_eqv hsI) (fun x y hx _ ho hox => hsP x y hx ho hox) id (fun x hx ho => ⟨hx, ho⟩) (fun x y hx _ hpx _ e => (orb_congr hsI (fun z => outB S z = true) hswP hsw hx hpx).1 e)
    · exact nc_le (orb_eqv hsI) (orb_eqv hst) (fun x y hx _ ho hox => by rw [hPo x y hx ho]; exact hox) id (fun x hx ho => ⟨hx, ho⟩) (fun x y hx _ hpx _ e => (orb_congr hsI (fun z => outB S z = true) hswP hsw hx hpx).2 e)
  have hr := hS.rest_orb hm hw 2 (by omega) (outB S) (outB (smS S c)) (fun x _ => smS_out S c x) hPo
  have hd := loops_dir hm hp hw 2 (by omega) true
  have hn := newL_nc hm hp hc
  have hsp := nc_split (OnOrb (stp M (pS S c) c 2)) (outB S) (inn M (pS S c) c) (4 * S.length)
  have e1 : nc (OnOrb (stp M (pS S c) c 2)) (fun x => outB S x && inn M (pS S c) c x) (4 * S.length) = nc (OnOrb (stp M (pS S c) c 2)) (fun x => inn M (pS S c) c x && (outB S x == true)) (4 * S.length) := nc_congr fun x _ => by cases outB S x <;> cases inn M (pS S c) c x <;> rfl
  have e2 : nc (OnOrb (stp M (pS S c) c 2)) (fun x => outB S x && !inn M (pS S c) c x) (4 * S.length) = nc (OnOrb (stp M (pS S c) c 2)) (fun x => !inn M (pS S c) c x && outB S x) (4 * S.length) := nc_congr fun x _ => by cases outB S x <;> cases inn M (pS S c) c x <;> rfl
  have l1 : (leasts S M).length = cnt (fun x => leastB (sc M) (perOf (sc M) (4 * S.length)) x && outB S x) (4 * S.length) := by
    rw [leasts_len]; exact cnt_congr fun x _ => Bool.and_comm _ _
  have l2 : (leasts (smS S c) (smM S M c)).length = nc (OnOrb (fb (smM S M c) 2)) (outB (smS S c)) (4 * (S.length - 1)) := by
    rw [leasts_len, hl]
    have hi : Inj (fb (smM S M c) 2) (4 * (S.length - 1)) := by
      have := hs'.injS
      rw [hl] at this
      exact this
    rw [← nc_orb hi]
    exact cnt_congr fun x _ => Bool.and_comm _ _
  have hco := nc_orb hsI (outB S)
  have hor : OnOrb (sc M) (mt M (4 * c)) (mt M q) ↔ st S M (4 * c + 2) = st S M (4 * c + 1) := by
    have s1 : st S M (4 * c + 2) = fl (sc M) (perOf (sc M) (4 * S.length)) (mt M (4 * c)) := by
      rw [← Shape.st_fl oa, hs.st_mt h0, hs.st_even h0 (by omega)]
      rw [show 4 * (4 * c / 4) + 2 = 4 * c + 2 from by omega]
    have s2 : st S M (4 * c + 1) = fl (sc M) (perOf (sc M) (4 * S.length)) (mt M q) := by
      rw [← Shape.st_fl ob, hs.st_mt hqN, hs.st_odd hqN (by rw [hq]; have := jn_par (pS S c) (4 * c + 2); omega), hqc]
    rw [s1, s2]
    constructor
    · intro h; exact (fl_eq hcs hs.perS ha h).symm
    · intro h
      have a1 := (fl_spec hs.perS ha).1
      have a2 := (fl_spec hs.perS hb).1
      rw [← h] at a2
      exact onOrb_trans a1 (onOrb_symm hcs hb a2)
  by_cases g : st S M (4 * c + 2) = st S M (4 * c + 1)
  · rw [if_pos g]
    have := split_count hcs ha hb hab (hor.2 g) (outB S) hPs oa ob
    omega
  · rw [if_neg g]
    have := merge_count hcs ha hb (fun e => g (hor.1 e)) (outB S) hPs oa ob
    omega
end
end Go.Proofs.Ytkopbcehfbmnmaa
