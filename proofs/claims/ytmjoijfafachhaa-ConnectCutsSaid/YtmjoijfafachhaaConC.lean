/- Plain law: two diagrams beside each other; two parts of a diagram joined along two edges. -/
import Derived.Test.YtmjoijfafachhaaConB
namespace Go.Proofs.Ytmjoijfafachhaa
open Go Go.RowKit
section
variable {S M : List Int} {L : Int} (hv : vldB S M L = true) {x y : Nat} (hx : x < 4 * S.length) (hy : y < 4 * S.length) (hox : outB S x = true) (hoy : outB S y = true) (hno : ¬ Conn M (x / 4) (y / 4))
include hv hx hy hox hoy hno
omit hv hx hy hox hoy in
theorem join_ne : x ≠ y := fun e => hno (by rw [e]; exact Conn.refl M _)
/-- The strands of x and of y become one, so that both ends are connected. -/
theorem join_conn : Conn (crossL M x y) (x / 4) (y / 4) ∧ (leasts S (crossL M x y)).length + 1 = (leasts S M).length := by
  obtain ⟨hs, _⟩ := vldB_iff.1 hv
  have hm := hs.mates2
  have hxy := join_ne hno
  obtain ⟨hs', hpy⟩ := cross_shape hv hx hy hox hoy hxy
  have o1 := hs.out_mt hx
  have o2 := hs.out_mt hy
  have hnos : ¬ OnOrb (sc M) x y := fun ⟨k, hk⟩ => hno (by
    have := Shape.conn_sc hs (c := x / 4) (k := k) hx (Conn.refl M _)
    rwa [hk] at this)
  have hg := swp_inj hs.injS hx hy
  have hPf : ∀ z, z < 4 * S.length → outB S (sc M z) = outB S z := fun z hz => hs.outS z hz
  have hPg : ∀ z, z < 4 * S.length → outB S (swp (sc M) x y z) = outB S z := fun z hz => by
    by_cases h1 : z = x
    · rw [h1, swp_left, hPf y hy, hox, hoy]
    · by_cases h2 : z = y
      · rw [h2, swp_right, hPf x hx, hox, hoy]
      · rw [swp_other _ h1 h2, hPf z hz]
  have hag : ∀ z, z < 4 * S.length → outB S z = true → swp (sc M) x y z = sc (crossL M x y) z := fun z hz hz1 => by
    have h1 := cross_comp hm hs.len hx hy hxy hpy 2 z
    rw [swp_other _ (fun e => by rw [e, o1, hox] at hz1; cases hz1) (fun e => by rw [e, o2, hoy] at hz1; cases hz1)] at h1
    exact h1.symm
  have ho := merge_ab hs.injS hy hnos
  have ho2 := (orb_congr hg (fun u => outB S u = true) (fun u hu h => by rw [hPg u hu]; exact h) hag hx hox).1 ho
  refine ⟨?_, ?_⟩
  · obtain ⟨k, hk⟩ := ho2
    have := Shape.conn_sc hs' (c := x / 4) (k := k) hx (Conn.refl _ _)
    rwa [hk] at this
  · have m1 := merge_count hs.injS hx hy hnos (outB S) hPf hox hoy
    have m2 := nc_same hg hs'.injS (outB S) hPg hag
    rw [leasts_len, leasts_len]
    have e1 : cnt (fun x => outB S x && leastB (sc M) (perOf (sc M) (4 * S.length)) x) (4 * S.length) = cnt (fun x => leastB (sc M) (perOf (sc M) (4 * S.length)) x && outB S x) (4 * S.length) := cnt_congr fun _ _ => Bool.and_comm _ _
    have e2 : cnt (fun z => outB S z && leastB (sc (crossL M x y)) (perOf (sc (crossL M x y)) (4 * S.length)) z) (4 * S.length) = cnt (fun z => leastB (sc (crossL M x y)) (perOf (sc (crossL M x y)) (4 * S.length)) z && outB S z) (4 * S.length) := cnt_congr fun _ _ => Bool.and_comm _ _
    rw [e1, e2]
    omega
/-- TWO SPHERES JOINED ARE ONE; the two edges are then a cut. -/
theorem join_sph : vldB S (crossL M x y) L = true ∧ OnOrb (fc (crossL M x y)) x y ∧ OnOrb (fc (crossL M x y)) (mt (crossL M x y) x) (mt (crossL M x y) y) := by
  classical
  obtain ⟨hs, hsp⟩ := vldB_iff.1 hv
  have hm := hs.mates2
  have hxy := join_ne hno
  obtain ⟨hs', hpy⟩ := cross_shape hv hx hy hox hoy hxy
  have hm' := hs'.mates2
  have hp := hm.inv hx
  have hq := hm.inv hy
  have n1 := hm.ne x hx
  have n2 := hm.ne y hy
  have n3 : mt M y ≠ x := fun e => hpy (by rw [← e, hq])
  have n4 : mt M x ≠ mt M y := fun e => hxy (by rw [← hp, e, hq])
  have hcs := fun {a b : Nat} (ha : a < S.length) (h : Conn M a b) => hm.ok.conn_symm ha h
  have cp : Conn M (x / 4) (mt M x / 4) := Conn.adj Mates.adj
  have cq : Conn M (y / 4) (mt M y / 4) := Conn.adj Mates.adj
  have orbC : ∀ u v, u < 4 * S.length → OnOrb (fc M) u v → Conn M (u / 4) (v / 4) := fun u v hu ho => (hm.conn_orb hu ho).2 (Conn.refl M _)
  have lp := hm.lt hx
  have lq := hm.lt hy
  have k1 : ¬ OnOrb (fc M) x y := fun h => hno (orbC x y hx h)
  have k2 : ¬ OnOrb (fc M) (mt M x) (mt M y) := fun h => hno ((cp.trans (orbC _ _ lp h)).trans (hcs (by omega) cq))
  have f1 : ¬ OnOrb (fc M) (mt M x) x := fun h => face_ne hv hx (onOrb_symm hm.inj lp h)
  have f2 : ¬ OnOrb (fc M) (mt M x) y := fun h => hno (cp.trans (orbC _ _ lp h))
  have hgI := swp_inj hm.inj hx hy
  have s1 := merge_count hm.inj hx hy k1 (fun _ => true) (fun _ _ => rfl) rfl rfl
  have k3 : ¬ OnOrb (swp (fc M) x y) (mt M x) (mt M y) := fun h => k2 ((orb_far hm.inj lp f1 f2 (mt M y)).2 h)
  have s2 := merge_count hgI lp lq k3 (fun _ => true) (fun _ _ => rfl) rfl rfl
  have hF := cross_FT hv hx hy hox hoy hxy
  have hF0 : FT M S.length = cnt (fun z => leastB (fc M) (perOf (fc M) (4 * S.length)) z && true) (4 * S.length) := by
    unfold FT; exact cnt_congr fun _ _ => by rw [Bool.and_true]
  have ht := (sph_total hm).1 hsp
  have hg := genus_total hm'
  have E' : Eqv (Conn (crossL M x y)) S.length := ⟨fun _ _ => Conn.refl _ _, fun _ _ ha _ h => hm'.ok.conn_symm ha h, fun _ _ _ _ _ _ a b => a.trans b⟩
  have E : Eqv (Conn M) S.length := ⟨fun _ _ => Conn.refl _ _, fun _ _ ha _ h => hm.ok.conn_symm ha h, fun _ _ _ _ _ _ a b => a.trans b⟩
  have hj := (join_conn hv hx hy hox hoy hno).1
  have hj' := hm'.ok.conn_symm (show x / 4 < S.length by omega) hj
  have sub : ∀ c d, c < S.length → d < S.length → Conn M c d → Conn (crossL M x y) c d := fun c d hc hd h => by
    rcases cross_tie hv hx hy hox hoy hxy hc h with g | ⟨g1, g2⟩
    · exact g
    · have a1 : Conn (crossL M x y) c (x / 4) := by
        rcases g1 with g | g
        · exact g
        · exact g.trans hj'
      have a2 : Conn (crossL M x y) d (x / 4) := by
        rcases g2 with g | g
        · exact g
        · exact g.trans hj'
      exact a1.trans (hm'.ok.conn_symm hd a2)
  have hsp1 := nc_split (Conn M) (fun _ => true) (fun c => decide (Conn M c (y / 4))) S.length
  have hone : nc (Conn M) (fun c => true && decide (Conn M c (y / 4))) S.length = 1 := by
    refine nc_one E (a := y / 4) (by omega) ?_ ?_ ?_
    · rw [Bool.true_and, decide_eq_true_eq]; exact Conn.refl _ _
    · intro u v hu hv e hp
      rw [Bool.true_and, decide_eq_true_eq] at hp ⊢
      exact (hm.ok.conn_symm hu e).trans hp
    · intro u hu hp
      rw [Bool.true_and, decide_eq_true_eq] at hp
      exact hp
  have hle : nc (Conn (crossL M x y)) (fun _ => true) S.length ≤ nc (Conn M) (fun c => true && !decide (Conn M c (y / 4))) S.length := by
    refine nc_le E' E (fun u v hu hv e hp => ?_) (fun c => if Conn M c (y / 4) then x / 4 else c) (fun c hc _ => ?_) (fun u v hu hv _ _ e => ?_)
    · rw [Bool.true_and, Bool.not_eq_true', decide_eq_false_iff_not] at hp ⊢
      exact fun g => hp (e.trans g)
    · show (if Conn M c (y / 4) then x / 4 else c) < S.length ∧ _
      rw [Bool.true_and, Bool.not_eq_true', decide_eq_false_iff_not]
      by_cases g : Conn M c (y / 4)
      · rw [if_pos g]; exact ⟨by omega, hno⟩
      · rw [if_neg g]; exact ⟨hc, g⟩
    · have e : Conn M (if Conn M u (y / 4) then x / 4 else u) (if Conn M v (y / 4) then x / 4 else v) := e
      by_cases g : Conn M u (y / 4)
      · have gu : Conn (crossL M x y) u (x / 4) := (sub _ _ hu (by omega) g).trans hj'
        rw [if_pos g] at e
        by_cases g2 : Conn M v (y / 4)
        · have gv : Conn (crossL M x y) v (x / 4) := (sub _ _ hv (by omega) g2).trans hj'
          exact gu.trans (hm'.ok.conn_symm hv gv)
        · rw [if_neg g2] at e
          exact gu.trans (sub _ _ (by omega) hv e)
      · rw [if_neg g] at e
        by_cases g2 : Conn M v (y / 4)
        · have gv : Conn (crossL M x y) v (x / 4) := (sub _ _ hv (by omega) g2).trans hj'
          rw [if_pos g2] at e
          exact (sub _ _ hu (by omega) e).trans (hm'.ok.conn_symm hv gv)
        · rw [if_neg g2] at e
          exact sub _ _ hu hv e
  rw [← Sm.ct_nc hm'] at hle
  rw [← Sm.ct_nc hm] at hsp1
  have hh := swp_inj hgI lp lq
  have eqo : ∀ u v, u < 4 * S.length → (OnOrb (fc (crossL M x y)) u v ↔ OnOrb (swp (swp (fc M) x y) (mt M x) (mt M y)) u v) := fun u v hu => orb_congr hm'.inj (fun _ => True) (fun _ _ _ => trivial) (fun z _ _ => cross_comp hm hs.len hx hy hxy hpy (-1) z) hu trivial
  refine ⟨vldB_iff.2 ⟨hs', (sph_total hm').2 (by omega)⟩, (eqo x y hx).2 (merge_of hgI lp lq k3 (merge_ab hm.inj hy k1)), ?_⟩
  have e1 : mt (crossL M x y) x = mt M y := by
    rw [cross_mt hm hs.len hx hy hxy hpy, swp_other _ (fun e => n1 e.symm) (fun e => n3 e.symm), swp_left]
  have e2 : mt (crossL M x y) y = mt M x := by
    rw [cross_mt hm hs.len hx hy hxy hpy, swp_other _ (fun e => hpy e.symm) (fun e => n2 e.symm), swp_right]
  rw [e1, e2]
  exact (eqo _ _ lq).2 (onOrb_symm hh lp (merge_ab hgI lq k3))
end
/-! ### Two diagrams beside each other. -/
def uniM (A B : List Int) : List Int := A ++ B.map fun m => (A.length : Int) + m
theorem uniM_len (A B : List Int) : (uniM A B).length = A.length + B.length := by simp [uniM]
theorem uniM_left {A B : List Int} {h : Nat} (hh : h < A.length) : nth (uniM A B) h = nth A h := nth_append_left _ _ _ hh
theorem uniM_right {A B : List Int} {h : Nat} (hh : h < B.length) : nth (uniM A B) (A.length + h) = (A.length : Int) + nth B h := by
  unfold uniM
  rw [nth_append_right _ _ _ (by omega), Nat.add_sub_cancel_left]
  simp [nth, hh]
section
variable {Sa Ma Sb Mb : List Int} {La Lb L : Int} (hva : vldB Sa Ma La = true) (hvb : vldB Sb Mb Lb = true) (hn : Sa.length + Sb.length ≤ 64) (h0 : 0 ≤ L) (h64 : L ≤ 64)
include hva hvb

theorem uni_left : ∀ h, h < 4 * Sa.length → nth (uniM Ma Mb) h = nth Ma h ∧ outB (Sa ++ Sb) h = outB Sa h := fun h hh => by
  have _ := hvb
  obtain ⟨ha, _⟩ := vldB_iff.1 hva
  refine ⟨uniM_left (by rw [ha.len]; exact hh), ?_⟩
  unfold outB
  rw [nth_append_left _ _ _ (by omega)]
theorem uni_right : ∀ h, h < 4 * Sb.length → nth (uniM Ma Mb) (4 * Sa.length + h) = 4 * (Sa.length : Int) + nth Mb h ∧ outB (Sa ++ Sb) (4 * Sa.length + h) = outB Sb h := fun h hh => by
  obtain ⟨ha, _⟩ := vldB_iff.1 hva
  obtain ⟨hb, _⟩ := vldB_iff.1 hvb
  have h1 := uniM_right (A := Ma) (B := Mb) (h := h) (by rw [hb.len]; exact hh)
  rw [ha.len] at h1
  refine ⟨by rw [h1]; push_cast; rfl, ?_⟩
  unfold outB
  rw [show (4 * Sa.length + h) % 4 = h % 4 by omega, show (4 * Sa.length + h) / 4 = Sa.length + h / 4 by omega, nth_append_right _ _ _ (by omega), Nat.add_sub_cancel_left]
theorem uni_embA : Emb Ma Sa.length (uniM Ma Mb) (Sa.length + Sb.length) id := ⟨fun c hc => by show c < _; omega, fun _ _ _ _ e => e, fun h hh => by
  have h1 := (uni_left hva hvb h hh).1
  have e : ∀ z, upE id z = z := fun z => by unfold upE; show 4 * (z / 4) + z % 4 = z; omega
  rw [e, e]
  unfold mt; rw [h1]⟩
theorem uni_embB : Emb Mb Sb.length (uniM Ma Mb) (Sa.length + Sb.length) (fun c => Sa.length + c) := ⟨fun c hc => by omega, fun _ _ _ _ e => by omega, fun h hh => by
  obtain ⟨hb, _⟩ := vldB_iff.1 hvb
  have h1 := (uni_right hva hvb h hh).1
  have e : ∀ z, upE (fun c => Sa.length + c) z = 4 * Sa.length + z := fun z => by show 4 * (Sa.length + z / 4) + z % 4 = _; omega
  have hr := hb.range h hh
  rw [e, e]
  unfold mt; rw [h1]; omega⟩
include hn h0 h64
theorem uni_shape : Shape (Sa ++ Sb) (uniM Ma Mb) L := by
  obtain ⟨ha, _⟩ := vldB_iff.1 hva
  obtain ⟨hb, _⟩ := vldB_iff.1 hvb
  refine ⟨by rw [List.length_append]; exact hn, by rw [uniM_len, List.length_append, ha.len, hb.len]; omega, h0, h64, fun c hc => ?_, fun h hh => ?_⟩
  · rw [List.length_append] at hc
    by_cases g : c < Sa.length
    · rw [nth_append_left _ _ _ g]; exact ha.sign c g
    · rw [nth_append_right _ _ _ (by omega)]; exact hb.sign _ (by omega)
  · rw [List.length_append] at hh ⊢
    by_cases g : h < 4 * Sa.length
    · obtain ⟨m1, m2, m3, m4, m5⟩ := ha.mate h g
      obtain ⟨e1, e2⟩ := uni_left hva hvb h g
      obtain ⟨e3, e4⟩ := uni_left hva hvb (nth Ma h).toNat (by omega)
      unfold mateOk
      rw [e1, e2, e3, e4]
      exact ⟨m1, by omega, m3, m4, m5⟩
    · obtain ⟨k, rfl⟩ : ∃ k, h = 4 * Sa.length + k := ⟨h - 4 * Sa.length, by omega⟩
      have hk : k < 4 * Sb.length := by omega
      obtain ⟨m1, m2, m3, m4, m5⟩ := hb.mate k hk
      obtain ⟨e1, e2⟩ := uni_right hva hvb k hk
      obtain ⟨e3, e4⟩ := uni_right hva hvb (nth Mb k).toNat (by omega)
      have e5 : (4 * (Sa.length : Int) + nth Mb k).toNat = 4 * Sa.length + (nth Mb k).toNat := by omega
      unfold mateOk
      rw [e1, e2, e5, e3, e4]
      exact ⟨by omega, by omega, by omega, by omega, m5⟩
/-- Two spheres beside each other. -/
theorem uni_valid : vldB (Sa ++ Sb) (uniM Ma Mb) L = true := by
  obtain ⟨ha, hsa⟩ := vldB_iff.1 hva
  obtain ⟨hb, hsb⟩ := vldB_iff.1 hvb
  have hs := uni_shape hva hvb hn h0 h64
  refine vldB_iff.2 ⟨hs, sph_cover hs.mates2 fun c hc => ?_⟩
  rw [List.length_append] at hc ⊢
  by_cases g : c < Sa.length
  · exact ⟨Ma, Sa.length, id, c, uni_embA hva hvb, ha.mates2, hsa, g, rfl⟩
  · exact ⟨Mb, Sb.length, _, c - Sa.length, uni_embB hva hvb, hb.mates2, hsb, by omega, by omega⟩
omit hn h0 h64 in
/-- No path leads from one to the other. -/
theorem uni_apart {c d : Nat} (hc : c < Sa.length) (hd : Sa.length ≤ d) : ¬ Conn (uniM Ma Mb) c d := fun h => by
  obtain ⟨ha, _⟩ := vldB_iff.1 hva
  obtain ⟨d', h1, h2, _⟩ := (uni_embA hva hvb).conn_back ha.mates2 hc h
  have h2 : d' = d := h2
  omega
/-- The strands of both. -/
theorem uni_leasts : (leasts (Sa ++ Sb) (uniM Ma Mb)).length = (leasts Sa Ma).length + (leasts Sb Mb).length := by
  obtain ⟨ha, _⟩ := vldB_iff.1 hva
  obtain ⟨hb, _⟩ := vldB_iff.1 hvb
  have hs := uni_shape hva hvb hn h0 h64
  have hadd : ∀ (p : Nat → Bool) (A B : Nat), cnt p (A + B) = cnt p A + cnt (fun z => p (A + z)) B := fun p A B => by
    induction B with
    | zero => rfl
    | succ B ih => rw [← Nat.add_assoc, cnt_succ, cnt_succ, ih]; omega
  rw [leasts_len, leasts_len, leasts_len, List.length_append, Nat.mul_add, hadd]
  have hI := hs.injS
  rw [List.length_append, Nat.mul_add] at hI
  have stA : ∀ z, z < 4 * Sa.length → sc (uniM Ma Mb) z = sc Ma z := fun z hz => by unfold sc; rw [(uni_left hva hvb z hz).1]
  have stB : ∀ z, z < 4 * Sb.length → sc (uniM Ma Mb) (4 * Sa.length + z) = 4 * Sa.length + sc Mb z := fun z hz => by
    have hr := hb.range z hz
    unfold sc; rw [(uni_right hva hvb z hz).1]
    have e : (4 * (Sa.length : Int) + nth Mb z).toNat = 4 * Sa.length + (nth Mb z).toNat := by omega
    rw [e]; unfold tn; omega
  have itA : ∀ k z, z < 4 * Sa.length → iter (sc (uniM Ma Mb)) k z = iter (sc Ma) k z := fun k z hz => by
    induction k with
    | zero => rfl
    | succ k ih => rw [iter_succ, iter_succ, ih, stA _ (iter_lt _ _ ha.injS.lt k z hz)]
  have itB : ∀ k z, z < 4 * Sb.length → iter (sc (uniM Ma Mb)) k (4 * Sa.length + z) = 4 * Sa.length + iter (sc Mb) k z := fun k z hz => by
    induction k with
    | zero => rfl
    | succ k ih => rw [iter_succ, iter_succ, ih, stB _ (iter_lt _ _ hb.injS.lt k z hz)]
  congr 1
  · refine cnt_congr fun z hz => ?_
    rw [(uni_left hva hvb z hz).2]
    congr 1
    rw [Bool.eq_iff_iff, leastB_iff hI (perOf_all hI) (by omega), leastB_iff ha.injS (perOf_all ha.injS) hz]
    refine forall_congr' fun u => forall_congr' fun hu => not_congr ?_
    constructor
    · rintro ⟨k, hk⟩; exact ⟨k, by rw [← itA k u (by omega)]; exact hk⟩
    · rintro ⟨k, hk⟩; exact ⟨k, by rw [itA k u (by omega)]; exact hk⟩
  · refine cnt_congr fun z hz => ?_
    rw [(uni_right hva hvb z hz).2]
    congr 1
    rw [Bool.eq_iff_iff, leastB_iff hI (perOf_all hI) (by omega), leastB_iff hb.injS (perOf_all hb.injS) hz]
    constructor
    · rintro h u hu ⟨k, hk⟩
      exact h (4 * Sa.length + u) (by omega) ⟨k, by rw [itB k u (by omega), hk]⟩
    · rintro h u hu ⟨k, hk⟩
      by_cases g : u < 4 * Sa.length
      · rw [itA k u g] at hk
        have := iter_lt _ _ ha.injS.lt k u g
        omega
      · obtain ⟨v, rfl⟩ : ∃ v, u = 4 * Sa.length + v := ⟨u - 4 * Sa.length, by omega⟩
        rw [itB k v (by omega)] at hk
        exact h v (by omega) ⟨k, by omega⟩
end
end Go.Proofs.Ytmjoijfafachhaa
