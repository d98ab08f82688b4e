/- Plain law: two edges crossed over: a cut parts a sphere into two, two spheres joined are one. -/
import Derived.Test.YtmjoijfafachhaaConA
namespace Go.Proofs.Ytmjoijfafachhaa
open Go Go.RowKit
/-- The mates of x and of y exchanged. -/
def crossL (M : List Int) (x y : Nat) : List Int := (((M.set x (nth M y)).set (mt M y) (x : Int)).set y (nth M x)).set (mt M x) (y : Int)
theorem crossL_len (M : List Int) (x y : Nat) : (crossL M x y).length = M.length := by simp [crossL]
theorem swp_comp (g : Nat → Nat) (f : Nat → Nat) (a b z : Nat) : g (swp f a b z) = swp (fun u => g (f u)) a b z := by
  unfold swp; split
  · rfl
  · split <;> rfl
section
variable {M : List Int} {n x y : Nat} (hm : Mates M n) (hl : M.length = 4 * n) (hx : x < 4 * n) (hy : y < 4 * n) (hxy : x ≠ y) (hpy : mt M x ≠ y)
include hm hl hx hy hxy hpy
omit hxy hpy in
theorem cross_nth (z : Nat) : nth (crossL M x y) z = if mt M x = z then (y : Int) else if y = z then nth M x else if mt M y = z then (x : Int) else if x = z then nth M y else nth M z := by
  have p1 := hm.lt hx
  have q1 := hm.lt hy
  unfold crossL
  rw [nth_set _ _ _ _ (by simp; omega), nth_set _ _ _ _ (by simp; omega), nth_set _ _ _ _ (by simp; omega), nth_set _ _ _ _ (by omega)]
theorem cross_mt (z : Nat) : mt (crossL M x y) z = swp (swp (mt M) x y) (mt M x) (mt M y) z := by
  have hp := hm.inv hx
  have hq := hm.inv hy
  have n1 := hm.ne x hx
  have n2 := hm.ne y hy
  have n3 : mt M y ≠ x := fun e => hpy (by rw [← e, hq])
  have n4 : mt M x ≠ mt M y := fun e => hxy (by rw [← hp, e, hq])
  have h := cross_nth hm hl hx hy z
  have cx := hm.ok.lt x hx
  have cy := hm.ok.lt y hy
  show (nth (crossL M x y) z).toNat = _
  rw [h]
  unfold swp
  by_cases z1 : z = mt M x
  · rw [if_pos z1.symm, if_pos z1, if_neg n3, if_neg n2, hq]; omega
  · rw [if_neg (fun e => z1 e.symm), if_neg z1]
    by_cases z4 : z = y
    · rw [if_pos z4.symm, if_neg (fun e => n2 (e.symm.trans z4)), if_neg (fun e => hxy (e.symm.trans z4)), if_pos z4]; rfl
    · rw [if_neg (fun e => z4 e.symm)]
      by_cases z2 : z = mt M y
      · rw [if_pos z2.symm, if_pos z2, if_neg n1, if_neg hpy, hp]; omega
      · rw [if_neg (fun e => z2 e.symm), if_neg z2]
        by_cases z3 : z = x
        · rw [if_pos z3.symm, if_pos z3]; rfl
        · rw [if_neg (fun e => z3 e.symm), if_neg z3, if_neg z4]; rfl
theorem cross_comp (t : Int) (z : Nat) : tn (mt (crossL M x y) z) t = swp (swp (fun u => tn (mt M u) t) x y) (mt M x) (mt M y) z := by
  rw [cross_mt hm hl hx hy hxy hpy, swp_comp (fun u => tn u t)]
  congr 1
  funext u
  exact swp_comp (fun u => tn u t) (mt M) x y u
omit hxy hpy in
theorem cross_lt {z : Nat} (hz : z < 4 * n) : 0 ≤ nth (crossL M x y) z ∧ nth (crossL M x y) z < 4 * (n : Int) := by
  rw [cross_nth hm hl hx hy]
  have h1 := hm.ok.lt x hx
  have h2 := hm.ok.lt y hy
  have h3 := hm.ok.lt z hz
  split
  · omega
  · split
    · omega
    · split
      · omega
      · split <;> omega
theorem cross_mates : Mates (crossL M x y) n := by
  have hp := hm.inv hx
  have hq := hm.inv hy
  have n1 := hm.ne x hx
  have n2 := hm.ne y hy
  have n3 : mt M y ≠ x := fun e => hpy (by rw [← e, hq])
  have n4 : mt M x ≠ mt M y := fun e => hxy (by rw [← hp, e, hq])
  have e1 : mt (crossL M x y) x = mt M y := by
    rw [cross_mt hm hl hx hy hxy hpy, swp_other _ (fun e => n1 e.symm) (fun e => n3 e.symm), swp_left]
  have e2 : mt (crossL M x y) y = mt M x := by
    rw [cross_mt hm hl hx hy hxy hpy, swp_other _ (fun e => hpy e.symm) (fun e => n2 e.symm), swp_right]
  have e3 : mt (crossL M x y) (mt M x) = y := by
    rw [cross_mt hm hl hx hy hxy hpy, swp_left, swp_other _ n3 n2, hq]
  have e4 : mt (crossL M x y) (mt M y) = x := by
    rw [cross_mt hm hl hx hy hxy hpy, swp_right, swp_other _ n1 hpy, hp]
  have e5 : ∀ z, z ≠ x → z ≠ y → z ≠ mt M x → z ≠ mt M y → mt (crossL M x y) z = mt M z := fun z a b c d => by
    rw [cross_mt hm hl hx hy hxy hpy, swp_other _ c d, swp_other _ a b]
  have key : ∀ z, z < 4 * n → mt (crossL M x y) (mt (crossL M x y) z) = z ∧ mt (crossL M x y) z ≠ z := fun z hz => by
    by_cases a : z = x
    · subst a; rw [e1, e4]; exact ⟨rfl, n3⟩
    by_cases b : z = y
    · subst b; rw [e2, e3]; exact ⟨rfl, hpy⟩
    by_cases c : z = mt M x
    · rw [c, e3, e2]; exact ⟨rfl, fun e => hpy e.symm⟩
    by_cases d : z = mt M y
    · rw [d, e4, e1]; exact ⟨rfl, fun e => n3 e.symm⟩
    rw [e5 z a b c d]
    refine ⟨?_, hm.ne z hz⟩
    have hzz := hm.inv hz
    rw [e5 (mt M z) (fun e => d (by rw [← hzz, e]; exact absurd (by rw [← hzz, e] : z = mt M x) c)) (fun e => d (by rw [← hzz, e])) (fun e => a (by rw [← hzz, e, hp])) (fun e => b (by rw [← hzz, e, hq])), hzz]
  refine ⟨⟨fun h hh => cross_lt hm hl hx hy hh, fun h hh => ?_⟩, fun z hz => (key z hz).2⟩
  have k := (key h hh).1
  have r := cross_lt hm hl hx hy hh
  have r2 := cross_lt hm hl hx hy (z := mt (crossL M x y) h) (by unfold mt; omega)
  unfold mt at k r2
  omega
/-- Crossed twice all is as it was. -/
theorem cross_cross : crossL (crossL M x y) x y = M := by
  have hm' := cross_mates hm hl hx hy hxy hpy
  have hp := hm.inv hx
  have hq := hm.inv hy
  have n1 := hm.ne x hx
  have n2 := hm.ne y hy
  have n3 : mt M y ≠ x := fun e => hpy (by rw [← e, hq])
  have n4 : mt M x ≠ mt M y := fun e => hxy (by rw [← hp, e, hq])
  have hl' : (crossL M x y).length = 4 * n := by rw [crossL_len]; exact hl
  have e1 : mt (crossL M x y) x = mt M y := by
    rw [cross_mt hm hl hx hy hxy hpy, swp_other _ (fun e => n1 e.symm) (fun e => n3 e.symm), swp_left]
  have e2 : mt (crossL M x y) y = mt M x := by
    rw [cross_mt hm hl hx hy hxy hpy, swp_other _ (fun e => hpy e.symm) (fun e => n2 e.symm), swp_right]
  refine ext_nth (by rw [crossL_len, crossL_len]) fun z hz => ?_
  rw [crossL_len, crossL_len, hl] at hz
  have h1 := cross_nth hm' hl' hx hy z
  have h2 := cross_nth hm hl hx hy z
  have hx2 := cross_nth hm hl hx hy x
  have hy2 := cross_nth hm hl hx hy y
  rw [if_neg n1, if_neg (fun e => hxy e.symm), if_neg n3, if_pos rfl] at hx2
  rw [if_neg hpy, if_pos rfl] at hy2
  rw [e1, e2, hx2, hy2] at h1
  rw [h1, h2]
  have cp := hm.ok.inv x hx
  have cq := hm.ok.inv y hy
  by_cases z1 : mt M y = z
  · rw [if_pos z1, ← z1]; exact cq.symm
  · rw [if_neg z1]
    by_cases z2 : y = z
    · rw [if_pos z2, z2]
    · rw [if_neg z2]
      by_cases z3 : mt M x = z
      · rw [if_pos z3, ← z3]; exact cp.symm
      · rw [if_neg z3]
        by_cases z4 : x = z
        · rw [if_pos z4, z4]
        · rw [if_neg z4, if_neg z3, if_neg z2, if_neg z1, if_neg z4]
end
/-- Cycles that hold neither a nor b stay. -/
theorem orb_far {f : Nat → Nat} {N a b p : Nat} (hf : Inj f N) (hp : p < N) (h1 : ¬ OnOrb f p a) (h2 : ¬ OnOrb f p b) (z : Nat) : OnOrb f p z ↔ OnOrb (swp f a b) p z :=
  orb_congr hf (fun u => OnOrb f p u) (fun u _ h => onOrb_trans h ⟨1, rfl⟩) (fun u _ h => (swp_other f (fun e => h1 (by rw [← e]; exact h)) (fun e => h2 (by rw [← e]; exact h))).symm) hp (onOrb_refl f p)
/-- Two permutations that agree have as many cycles. -/
theorem nc_same {f g : Nat → Nat} {N : Nat} (hf : Inj f N) (hg : Inj g N) (P : Nat → Bool) (hP : ∀ x, x < N → P (f x) = P x) (h : ∀ x, x < N → P x = true → f x = g x) : cnt (fun x => leastB f (perOf f N) x && P x) N = cnt (fun x => leastB g (perOf g N) x && P x) N := by
  have hPf : ∀ x, x < N → P x = true → P (f x) = true := fun x hx hp => by rw [hP x hx]; exact hp
  have cl : ∀ x y, x < N → OnOrb f x y → P x = true → P y = true := by
    rintro x y hx ⟨k, rfl⟩ hp
    induction k with
    | zero => exact hp
    | succ k ih => rw [iter_succ]; exact hPf _ (iter_lt f N hf.lt k x hx) ih
  have cg : ∀ x y, x < N → OnOrb g x y → P x = true → P y = true := fun x y hx ho hp => cl x y hx ((orb_congr hf (fun u => P u = true) hPf h hx hp).2 ho) hp
  rw [nc_orb hf, nc_orb hg]
  refine Nat.le_antisymm ?_ ?_
  · exact nc_le (orb_eqv hf) (orb_eqv hg) (fun x y hx _ ho hp => cg x y hx ho hp) id (fun x hx hp => ⟨hx, hp⟩) (fun x y hx _ hp _ ho => (orb_congr hf (fun u => P u = true) hPf h hx hp).2 ho)
  · exact nc_le (orb_eqv hg) (orb_eqv hf) (fun x y hx _ ho hp => cl x y hx ho hp) id (fun x hx hp => ⟨hx, hp⟩) (fun x y hx _ hp _ ho => (orb_congr hf (fun u => P u = true) hPf h hx hp).1 ho)
/-- An edge of a sphere has two faces. -/
theorem face_ne {S M : List Int} {L : Int} (hv : vldB S M L = true) {x : Nat} (hx : x < 4 * S.length) : ¬ OnOrb (fc M) x (mt M x) := fun ho => by
  obtain ⟨hs, hsp⟩ := vldB_iff.1 hv
  have hm := hs.mates2
  obtain ⟨A, hA⟩ := bounds hm (c0 := x / 4) hsp (by omega) (fun z => decide (st S M z = st S M x)) (fun z hz => by rw [hs.st_mt hz]) (fun c _ _ => hs.strand_even _ _)
  have h := hA x hx (Conn.refl M _)
  have e : lf M S.length (mt M x) = lf M S.length x := fl_eq hm.inj hm.per hx ho
  rw [e] at h
  simp at h
section
variable {S M : List Int} {L : Int} (hv : vldB S M L = true) {x y : Nat} (hx : x < 4 * S.length) (hy : y < 4 * S.length) (hox : outB S x = true) (hoy : outB S y = true) (hxy : x ≠ y)
include hv hx hy hox hoy hxy
theorem cross_shape : Shape S (crossL M x y) L ∧ mt M x ≠ y := by
  obtain ⟨hs, _⟩ := vldB_iff.1 hv
  have hm := hs.mates2
  have o1 := hs.out_mt hx
  have o2 := hs.out_mt hy
  have hpy : mt M x ≠ y := fun e => by rw [e, hoy, hox] at o1; cases o1
  have hm' := cross_mates hm hs.len hx hy hxy hpy
  refine ⟨⟨hs.few, by rw [crossL_len]; exact hs.len, hs.lo, hs.hi, hs.sign, fun h hh => ?_⟩, hpy⟩
  have r := hm'.ok.lt h hh
  have i := hm'.ok.inv h hh
  have ne := hm'.ne h hh
  refine ⟨r.1, r.2, fun e => ne (by unfold mt; omega), i, ?_⟩
  show outB S h ≠ outB S (mt (crossL M x y) h)
  rw [cross_mt hm hs.len hx hy hxy hpy]
  unfold swp
  have n1 := hm.ne x hx
  have n2 := hm.ne y hy
  have hp := hm.inv hx
  have hq := hm.inv hy
  have n3 : mt M y ≠ x := fun e => hpy (by rw [← e, hq])
  by_cases a : h = mt M x
  · rw [if_pos a, if_neg n3, if_neg n2, hq, a, o1, hox, hoy]; decide
  · rw [if_neg a]
    by_cases b : h = mt M y
    · rw [if_pos b, if_neg n1, if_neg hpy, hp, b, o2, hox, hoy]; decide
    · rw [if_neg b]
      by_cases c : h = x
      · rw [if_pos c, c, o2, hox, hoy]; decide
      · rw [if_neg c]
        by_cases d : h = y
        · rw [if_pos d, d, o1, hox, hoy]; decide
        · rw [if_neg d, hs.out_mt hh]; cases outB S h <;> decide
/-- The faces' number of the crossed diagram. -/
theorem cross_FT : FT (crossL M x y) S.length = cnt (fun z => leastB (swp (swp (fc M) x y) (mt M x) (mt M y)) (perOf (swp (swp (fc M) x y) (mt M x) (mt M y)) (4 * S.length)) z && true) (4 * S.length) := by
  obtain ⟨hs, _⟩ := vldB_iff.1 hv
  have hm := hs.mates2
  obtain ⟨hs', hpy⟩ := cross_shape hv hx hy hox hoy hxy
  have hm' := hs'.mates2
  have hg := swp_inj (swp_inj hm.inj hx hy) (hm.lt hx) (hm.lt hy)
  have h1 := nc_same hm'.inj hg (fun _ => true) (fun _ _ => rfl) (fun z _ _ => cross_comp hm hs.len hx hy hxy hpy (-1) z)
  rw [← h1]
  unfold FT
  exact cnt_congr fun _ _ => by rw [Bool.and_true]
/-- What is connected stays so, or hangs with x or y. -/
theorem cross_tie {c d : Nat} (hc : c < S.length) (h : Conn M c d) : Conn (crossL M x y) c d ∨ ((Conn (crossL M x y) c (x / 4) ∨ Conn (crossL M x y) c (y / 4)) ∧ (Conn (crossL M x y) d (x / 4) ∨ Conn (crossL M x y) d (y / 4))) := by
  obtain ⟨hs, _⟩ := vldB_iff.1 hv
  have hm := hs.mates2
  obtain ⟨hs', hpy⟩ := cross_shape hv hx hy hox hoy hxy
  have hm' := hs'.mates2
  have hp := hm.inv hx
  have hq := hm.inv hy
  have n1 := hm.ne x hx
  have n2 := hm.ne y hy
  have n3 : mt M y ≠ x := fun e => hpy (by rw [← e, hq])
  have e1 : mt (crossL M x y) x = mt M y := by
    rw [cross_mt hm hs.len hx hy hxy hpy, swp_other _ (fun e => n1 e.symm) (fun e => n3 e.symm), swp_left]
  have e2 : mt (crossL M x y) y = mt M x := by
    rw [cross_mt hm hs.len hx hy hxy hpy, swp_other _ (fun e => hpy e.symm) (fun e => n2 e.symm), swp_right]
  have c1 : Conn (crossL M x y) (x / 4) (mt M y / 4) := by rw [← e1]; exact Conn.adj Mates.adj
  have c2 : Conn (crossL M x y) (y / 4) (mt M x / 4) := by rw [← e2]; exact Conn.adj Mates.adj
  have c3 := hm'.ok.conn_symm (by omega) c1
  have c4 := hm'.ok.conn_symm (by omega) c2
  have key := h (fun d => d < S.length ∧ (Conn (crossL M x y) c d ∨ ((Conn (crossL M x y) c (x / 4) ∨ Conn (crossL M x y) c (y / 4)) ∧ (Conn (crossL M x y) d (x / 4) ∨ Conn (crossL M x y) d (y / 4))))) ⟨hc, .inl (Conn.refl _ _)⟩ (fun a b ⟨ha, hq0⟩ hab => by
    have hbn := hm.ok.adj_lt ha hab
    obtain ⟨s, hs4, rfl⟩ := hab
    have hl : 4 * a + s < 4 * S.length := by omega
    have hz : (4 * a + s) / 4 = a := by omega
    show mt M (4 * a + s) / 4 < S.length ∧ _
    refine ⟨hbn, ?_⟩
    have hbn2 : mt M (4 * a + s) / 4 < S.length := hbn
    -- is the edge one of the two?
    have near : ∀ z, z < S.length → (Conn (crossL M x y) z (x / 4) ∨ Conn (crossL M x y) z (y / 4)) → Conn (crossL M x y) c z → (Conn (crossL M x y) c (x / 4) ∨ Conn (crossL M x y) c (y / 4)) := fun z _ h1 h2 => by
      rcases h1 with h1 | h1
      · exact .inl (h2.trans h1)
      · exact .inr (h2.trans h1)
    have both : (Conn (crossL M x y) a (x / 4) ∨ Conn (crossL M x y) a (y / 4)) → (Conn (crossL M x y) (mt M (4 * a + s) / 4) (x / 4) ∨ Conn (crossL M x y) (mt M (4 * a + s) / 4) (y / 4)) → Conn (crossL M x y) c (mt M (4 * a + s) / 4) ∨ ((Conn (crossL M x y) c (x / 4) ∨ Conn (crossL M x y) c (y / 4)) ∧ (Conn (crossL M x y) (mt M (4 * a + s) / 4) (x / 4) ∨ Conn (crossL M x y) (mt M (4 * a + s) / 4) (y / 4))) := fun h1 h2 => by
      rcases hq0 with h3 | ⟨h3, _⟩
      · exact .inr ⟨near a ha h1 h3, h2⟩
      · exact .inr ⟨h3, h2⟩
    by_cases g1 : 4 * a + s = x
    · refine both (.inl (by rw [← hz, g1]; exact Conn.refl _ _)) (.inr (by rw [g1]; exact c4))
    by_cases g2 : 4 * a + s = y
    · refine both (.inr (by rw [← hz, g2]; exact Conn.refl _ _)) (.inl (by rw [g2]; exact c3))
    by_cases g3 : 4 * a + s = mt M x
    · refine both (.inr (by rw [← hz, g3]; exact c4)) (.inl (by rw [g3, hp]; exact Conn.refl _ _))
    by_cases g4 : 4 * a + s = mt M y
    · refine both (.inl (by rw [← hz, g4]; exact c3)) (.inr (by rw [g4, hq]; exact Conn.refl _ _))
    have e5 : mt (crossL M x y) (4 * a + s) = mt M (4 * a + s) := by
      rw [cross_mt hm hs.len hx hy hxy hpy, swp_other _ g3 g4, swp_other _ g1 g2]
    have hst : Conn (crossL M x y) a (mt M (4 * a + s) / 4) := by
      have := Conn.adj (Mates.adj (M := crossL M x y) (x := 4 * a + s))
      rwa [e5, hz] at this
    rcases hq0 with h3 | ⟨h3, h4⟩
    · exact .inl (h3.trans hst)
    · have hb := hm'.ok.conn_symm ha hst
      refine .inr ⟨h3, ?_⟩
      rcases h4 with h4 | h4
      · exact .inl (hb.trans h4)
      · exact .inr (hb.trans h4))
  exact key.2
/-- AT A CUT A SPHERE FALLS INTO TWO. -/
theorem cut_sph (h1 : OnOrb (fc M) x y) (h2 : OnOrb (fc M) (mt M x) (mt M y)) : vldB S (crossL M x y) L = true ∧ ¬ Conn (crossL M x y) (x / 4) (y / 4) := by
  obtain ⟨hs, hsp⟩ := vldB_iff.1 hv
  have hm := hs.mates2
  obtain ⟨hs', hpy⟩ := cross_shape hv hx hy hox hoy hxy
  have hm' := hs'.mates2
  have hp := hm.inv hx
  have hq := hm.inv hy
  have n4 : mt M x ≠ mt M y := fun e => hxy (by rw [← hp, e, hq])
  have hne := face_ne hv hx
  have s1 := split_count hm.inj hx hy hxy h1 (fun _ => true) (fun _ _ => rfl) rfl rfl
  have f1 : ¬ OnOrb (fc M) (mt M x) x := fun h => hne (onOrb_symm hm.inj (hm.lt hx) h)
  have f2 : ¬ OnOrb (fc M) (mt M x) y := fun h => f1 (onOrb_trans h (onOrb_symm hm.inj hx h1))
  have h3 := (orb_far hm.inj (hm.lt hx) f1 f2 (mt M y)).1 h2
  have s2 := split_count (swp_inj hm.inj hx hy) (hm.lt hx) (hm.lt hy) n4 h3 (fun _ => true) (fun _ _ => rfl) rfl rfl
  have hF := cross_FT hv hx hy hox hoy hxy
  have hF0 : FT M S.length = cnt (fun z => leastB (fc M) (perOf (fc M) (4 * S.length)) z && true) (4 * S.length) := by
    unfold FT; exact cnt_congr fun _ _ => by rw [Bool.and_true]
  have ht := (sph_total hm).1 hsp
  have hg := genus_total hm'
  have E : Eqv (Conn (crossL M x y)) S.length := ⟨fun _ _ => Conn.refl _ _, fun _ _ ha _ h => hm'.ok.conn_symm ha h, fun _ _ _ _ _ _ a b => a.trans b⟩
  have E' : Eqv (Conn M) S.length := ⟨fun _ _ => Conn.refl _ _, fun _ _ ha _ h => hm.ok.conn_symm ha h, fun _ _ _ _ _ _ a b => a.trans b⟩
  have tie := nc_tie E E' (a := x / 4) (b := y / 4) (by omega) (by omega) (fun c d hc _ h => cross_tie hv hx hy hox hoy hxy hc h)
  rw [← Sm.ct_nc hm', ← Sm.ct_nc hm] at tie
  refine ⟨vldB_iff.2 ⟨hs', (sph_total hm').2 (by omega)⟩, fun hc => ?_⟩
  have := tie.2 hc
  omega
end
end Go.Proofs.Ytmjoijfafachhaa
