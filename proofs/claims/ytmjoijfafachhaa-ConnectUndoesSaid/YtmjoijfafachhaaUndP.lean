/- Plain law: Factor undoes Sum. -/
import Derived.Test.YtmjoijfafachhaaFacP
namespace Go.Proofs.Ytmjoijfafachhaa
open Go Go.RowKit
theorem vld_L0 {S M : List Int} {L : Int} (hv : vldB S M L = true) : vldB S M 0 = true := by
  obtain ⟨hs, hp⟩ := vldB_iff.1 hv
  exact vldB_iff.2 ⟨⟨hs.few, hs.len, Int.le_refl _, by omega, hs.sign, hs.mate⟩, hp⟩
/-- One group: all hangs together. -/
theorem one_conn {M : List Int} {n : Nat} (hm : MateOk M n) (h : (grpOf M n).length = 1) : ∀ c d, c < n → d < n → Conn M c d := fun c d hc hd => by
  obtain ⟨G, hG⟩ := List.length_eq_one_iff.1 h
  have h1 := grp_has hm c hc
  have h2 := grp_has hm d hd
  rw [hG] at h1 h2
  have e : clsN M n d = clsN M n c := (List.mem_singleton.1 h2).trans (List.mem_singleton.1 h1).symm
  have := cls_self (M := M) hd
  rw [e] at this
  exact (mem_clsN.1 this).2
theorem idx_range {n c : Nat} (h : c < n) : idxI (List.range n) c = c := by
  unfold idxI
  have hl : c < (List.range n).length := by rw [List.length_range]; exact h
  have := (List.nodup_range (n := n)).idxOf_getElem c hl
  rwa [List.getElem_range] at this
theorem idx_shift {a n c : Nat} (h : c < n) : idxI ((List.range n).map fun i => a + i) (a + c) = c := by
  unfold idxI
  have hnd : ((List.range n).map fun i => a + i).Nodup := by
    show List.Pairwise (· ≠ ·) _
    rw [List.pairwise_map]
    exact (List.nodup_range (n := n)).imp fun h e => h (by omega)
  have hl : c < ((List.range n).map fun i => a + i).length := by rw [List.length_map, List.length_range]; exact h
  have := hnd.idxOf_getElem c hl
  rwa [List.getElem_map, List.getElem_range] at this
section
variable {Sa Ma Sb Mb : List Int} {La Lb : Int} (hva : vldB Sa Ma La = true) (hvb : vldB Sb Mb Lb = true) (hn : Sa.length + Sb.length ≤ 64)
  (ga : (grpOf Ma Sa.length).length = 1) (gb : (grpOf Mb Sb.length).length = 1)
include hva hvb ga in
theorem cls_left {c : Nat} (hc : c < Sa.length) : clsN (uniM Ma Mb) (Sa.length + Sb.length) c = List.range Sa.length := by
  have ha := (vldB_shape hva).mates2
  refine rising_eq ((range_rising _).sublist List.filter_sublist) (range_rising _) fun d => ?_
  rw [mem_clsN, List.mem_range]
  constructor
  · rintro ⟨_, h⟩
    rcases Nat.lt_or_ge d Sa.length with g | g
    · exact g
    · exact absurd h (uni_apart hva hvb hc g)
  · intro h
    exact ⟨by omega, (uni_embA hva hvb).conn_to ha hc (one_conn ha.ok ga c d hc h)⟩
include hva hvb gb in
theorem cls_right {c : Nat} (h0 : Sa.length ≤ c) (hc : c < Sa.length + Sb.length) : clsN (uniM Ma Mb) (Sa.length + Sb.length) c = (List.range Sb.length).map fun i => Sa.length + i := by
  have hb := (vldB_shape hvb).mates2
  have hE := uni_embB hva hvb
  have hr : ((List.range Sb.length).map fun i => Sa.length + i).Pairwise (· < ·) := by
    rw [List.pairwise_map]
    exact (range_rising _).imp fun h => by omega
  refine rising_eq ((range_rising _).sublist List.filter_sublist) hr fun d => ?_
  rw [mem_clsN, List.mem_map]
  obtain ⟨k, rfl⟩ : ∃ k, c = Sa.length + k := ⟨c - Sa.length, by omega⟩
  constructor
  · rintro ⟨_, h⟩
    obtain ⟨d', h1, h2, _⟩ := hE.conn_back hb (c := k) (by omega) h
    exact ⟨d', List.mem_range.2 h1, h2⟩
  · rintro ⟨d', h1, rfl⟩
    have h1 := List.mem_range.1 h1
    exact ⟨by omega, hE.conn_to hb (c := k) (by omega) (one_conn hb.ok gb k d' (by omega) h1)⟩
include hva hvb in
theorem part_left : partS (Sa ++ Sb) (List.range Sa.length) = Sa ∧ partM (uniM Ma Mb) (List.range Sa.length) = Ma := by
  have ha := vldB_shape hva
  constructor
  · refine ext_nth (by rw [partS_len, List.length_range]) fun c hc => ?_
    rw [partS_len, List.length_range] at hc
    rw [partS_nth (by rw [List.length_range]; exact hc), show (List.range Sa.length).getD c 0 = c by simp [hc], nth_append_left _ _ _ hc]
  · refine ext_nth (by rw [partM_len, List.length_range, ha.len]) fun h hh => ?_
    rw [partM_len, List.length_range] at hh
    rw [partM_nth (by rw [List.length_range]; exact hh), show (List.range Sa.length).getD (h / 4) 0 = h / 4 by simp [show h / 4 < Sa.length by omega], show 4 * (h / 4) + h % 4 = h by omega]
    have e := (uni_left hva hvb h hh).1
    have hr := ha.range h hh
    unfold partV
    have em : mt (uniM Ma Mb) h = mt Ma h := by unfold mt; rw [e]
    have hlt := ha.mt_lt hh
    rw [em, idx_range (by omega)]
    have : (mt Ma h : Int) = nth Ma h := by unfold mt; omega
    omega
include hva hvb in
theorem part_right : partS (Sa ++ Sb) ((List.range Sb.length).map fun i => Sa.length + i) = Sb ∧ partM (uniM Ma Mb) ((List.range Sb.length).map fun i => Sa.length + i) = Mb := by
  have hb := vldB_shape hvb
  have hl : ((List.range Sb.length).map fun i => Sa.length + i).length = Sb.length := by rw [List.length_map, List.length_range]
  have hg : ∀ c, c < Sb.length → ((List.range Sb.length).map fun i => Sa.length + i).getD c 0 = Sa.length + c := fun c hc => by simp [hc]
  constructor
  · refine ext_nth (by rw [partS_len, hl]) fun c hc => ?_
    rw [partS_len, hl] at hc
    rw [partS_nth (by rw [hl]; exact hc), hg c hc, nth_append_right _ _ _ (by omega), Nat.add_sub_cancel_left]
  · refine ext_nth (by rw [partM_len, hl, hb.len]) fun h hh => ?_
    rw [partM_len, hl] at hh
    rw [partM_nth (by rw [hl]; exact hh), hg (h / 4) (by omega), show 4 * (Sa.length + h / 4) + h % 4 = 4 * Sa.length + h by omega]
    have e := (uni_right hva hvb h hh).1
    have hr := hb.range h hh
    unfold partV
    have em : mt (uniM Ma Mb) (4 * Sa.length + h) = 4 * Sa.length + mt Mb h := by unfold mt; rw [e]; omega
    have hlt := hb.mt_lt hh
    rw [em, show (4 * Sa.length + mt Mb h) / 4 = Sa.length + mt Mb h / 4 by omega, idx_shift (by omega)]
    have : (mt Mb h : Int) = nth Mb h := by unfold mt; omega
    omega
include hva hvb hn ga gb in
theorem undo_good {x y : Nat} (hx : x < 4 * Sa.length) (hy : y < 4 * Sb.length) (hox : outB Sa x = true) (hoy : outB Sb y = true) :
    vldB (Sa ++ Sb) (crossL (uniM Ma Mb) x (Ma.length + y)) 0 = true ∧ outB (Sa ++ Sb) x = true ∧ outB (Sa ++ Sb) (Ma.length + y) = true ∧ OnOrb (fc (crossL (uniM Ma Mb) x (Ma.length + y))) x (Ma.length + y) ∧ OnOrb (fc (crossL (uniM Ma Mb) x (Ma.length + y))) (mt (crossL (uniM Ma Mb) x (Ma.length + y)) x) (mt (crossL (uniM Ma Mb) x (Ma.length + y)) (Ma.length + y)) ∧
      facA (Sa ++ Sb) (crossL (uniM Ma Mb) x (Ma.length + y)) x (Ma.length + y) = (Sa, Ma, 0) ∧ facB (Sa ++ Sb) (crossL (uniM Ma Mb) x (Ma.length + y)) x (Ma.length + y) = (Sb, Mb, 0) := by
  have hsa := vldB_shape hva
  have hsb := vldB_shape hvb
  have hu := uni_valid hva hvb hn (L := 0) (Int.le_refl _) (by omega)
  have hus := vldB_shape hu
  have hl := hsa.len
  have hlen : (Sa ++ Sb).length = Sa.length + Sb.length := List.length_append
  have hX : x < 4 * (Sa ++ Sb).length := by omega
  have hY : Ma.length + y < 4 * (Sa ++ Sb).length := by omega
  have o1 : outB (Sa ++ Sb) x = true := by rw [(uni_left hva hvb x hx).2]; exact hox
  have o2 : outB (Sa ++ Sb) (Ma.length + y) = true := by rw [hl, (uni_right hva hvb y hy).2]; exact hoy
  have hno : ¬ Conn (uniM Ma Mb) (x / 4) ((Ma.length + y) / 4) := uni_apart hva hvb (by omega) (by omega)
  have hj := join_sph hu hX hY o1 o2 hno
  have hxy : x ≠ Ma.length + y := by omega
  have hpy := (cross_shape hu hX hY o1 o2 hxy).2
  have hcc : crossL (crossL (uniM Ma Mb) x (Ma.length + y)) x (Ma.length + y) = uniM Ma Mb := cross_cross hus.mates2 hus.len hX hY hxy hpy
  refine ⟨hj.1, o1, o2, hj.2.1, hj.2.2, ?_, ?_⟩
  · unfold facA ptD
    rw [hcc, hlen, cls_left hva hvb ga (by omega), (part_left hva hvb).1, (part_left hva hvb).2]
  · unfold facB ptD
    rw [hcc, hlen, cls_right hva hvb gb (by omega) (by omega), (part_right hva hvb).1, (part_right hva hvb).2]
end
end Go.Proofs.Ytmjoijfafachhaa
