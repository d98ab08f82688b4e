/- The walk of linking.Matrix. -/
import Derived.Test.YtkopbcehfbmnmaaRefMatW
namespace Go.Proofs.Ytkopbcehfbmnmaa
open Go Go.RowKit
set_option maxRecDepth 100000 in
set_option maxHeartbeats 2000000 in
theorem mat1_any (w : World) (bP bR bG N u o : Nat) (g : List Int) (s : Int) (hu : u < N) (ho : o < N) (hgl : g.length = N) (hb : -64 ≤ nth g o ∧ nth g o ≤ 64) (hs : -1 ≤ s ∧ s ≤ 1)
    (hP : Row w bP 30 [.slice (some ⟨bR, 0, none⟩) N N]) (hR : w.cell? ⟨bR, u, none⟩ = some (.slice (some ⟨bG + u, 0, none⟩) N N)) (hG : Row w (bG + u) 3 (ints g)) :
    Calls Try.prog 99 #[.int .i64 (u : Int), .int .i64 (o : Int), .int .i64 s, .pointer (some ⟨bP, 0, none⟩)] w fun e w' => e = .returned (.tuple #[]) ∧ w' = w.setCell ⟨bG + u, o, none⟩ (.int .i64 (nth g o + s)) := by
  have hc0 := hP.cell 0
  simp only [List.getElem?_cons_zero] at hc0
  have hcg := hG.int o (by omega)
  have hfg := hG.frozen o
  generalize nth g o = x at *
  clear hP hG hgl
  go_enter Try.func99, Try.ntmps99
  go_wp2_with fail
  refine bodyPost_end (results_none rfl _ _ _) rfl ?_
  exact ⟨rfl, rfl⟩
theorem row_set (h : Nat → Int) (N o : Nat) (v : Int) : ((List.range N).map h).set o v = (List.range N).map fun k => if k = o then v else h k := by
  refine ext_nth (by simp) fun i hi => ?_
  have hi2 : i < N := by simpa using hi
  rcases Nat.lt_or_ge o N with ho | ho
  · rw [nth_set _ _ _ _ (by simpa using ho), nth_row _ _ _ hi2, nth_row _ _ _ hi2]
    by_cases e : o = i
    · rw [if_pos e, if_pos e.symm]
    · rw [if_neg e, if_neg (fun e2 => e e2.symm)]
  · rw [List.set_eq_of_length_le (by simpa using ho), nth_row _ _ _ hi2, nth_row _ _ _ hi2, if_neg (by omega)]
/-- The rows, each a block of its own, one behind the other. -/
def Grid (w : World) (bG N m : Nat) (G : Nat → Nat → Int) : Prop := ∀ i, i < m → Row w (bG + i) 3 (ints ((List.range N).map (G i)))
theorem Grid.kept {w w' : World} {bG N m : Nat} {G : Nat → Nat → Int} (h : Grid w bG N m G) (hk : ∀ i, i < m → w'.heap[bG + i]? = w.heap[bG + i]?) : Grid w' bG N m G := fun i hi => (h i hi).kept (hk i hi)
theorem Grid.later {w w' : World} {bG N m B : Nat} {G : Nat → Nat → Int} (h : Grid w bG N m G) (hb : Below B w w') (hB : bG + m ≤ B) : Grid w' bG N m G := h.kept fun i hi => hb.block _ (by omega)
theorem Grid.congr {w : World} {bG N m : Nat} {G H : Nat → Nat → Int} (h : Grid w bG N m G) (e : ∀ i k, i < m → k < N → G i k = H i k) : Grid w bG N m H := fun i hi => by
  have := h i hi
  have e2 : (List.range N).map (G i) = (List.range N).map (H i) := List.map_congr_left fun k hk => e i k hi (List.mem_range.1 hk)
  rwa [e2] at this
theorem Grid.set {w : World} {bG N m u o : Nat} {G : Nat → Nat → Int} (h : Grid w bG N m G) (hu : u < m) (v : Int) : Grid (w.setCell ⟨bG + u, o, none⟩ (.int .i64 v)) bG N m fun i k => if i = u ∧ k = o then v else G i k := fun i hi => by
  by_cases e : i = u
  · subst e
    have h1 := (h i hi).setInt o v
    rw [row_set] at h1
    have e2 : ((List.range N).map fun k => if k = o then v else G i k) = (List.range N).map fun k => if i = i ∧ k = o then v else G i k := List.map_congr_left fun k _ => by simp
    rwa [e2] at h1
  · have h1 := (h i hi).setOther ⟨bG + u, o, none⟩ (.int .i64 v) (by simp; omega)
    have e2 : (List.range N).map (G i) = (List.range N).map fun k => if i = u ∧ k = o then v else G i k := List.map_congr_left fun k _ => by rw [if_neg (fun g => e g.1)]
    rwa [e2] at h1
/-- The slices of the first k rows; behind them nil. -/
def heads (bG N k : Nat) : List Value := (List.range N).map fun i => if i < k then .slice (some ⟨bG + i, 0, none⟩) N N else .slice none 0 0
theorem heads_len (bG N k : Nat) : (heads bG N k).length = N := by simp [heads]
theorem heads_get (bG N k i : Nat) (hi : i < N) : (heads bG N k)[i]? = some (if i < k then .slice (some ⟨bG + i, 0, none⟩) N N else .slice none 0 0) := by simp [heads, hi]
theorem heads_zero (bG N : Nat) : heads bG N 0 = List.replicate N (.slice none 0 0) := by
  apply List.ext_getElem?
  intro i
  rcases Nat.lt_or_ge i N with h | h
  · rw [heads_get _ _ _ _ h, if_neg (by omega)]; simp [h]
  · rw [List.getElem?_eq_none (by rw [heads_len]; exact h), List.getElem?_eq_none (by simpa using h)]
theorem heads_succ (bG N k : Nat) : (heads bG N k).set k (.slice (some ⟨bG + k, 0, none⟩) N N) = heads bG N (k + 1) := by
  apply List.ext_getElem?
  intro i
  rcases Nat.lt_or_ge i N with h | h
  · rw [List.getElem?_set, heads_get _ _ _ _ h, heads_get _ _ _ _ h, heads_len]
    by_cases e : k = i
    · subst e
      rw [if_pos rfl, if_pos h, if_pos (by omega)]
    · rw [if_neg e]
      by_cases g : i < k
      · rw [if_pos g, if_pos (by omega)]
      · rw [if_neg g, if_neg (by omega)]
  · rw [List.getElem?_eq_none (by simpa [heads_len] using h), List.getElem?_eq_none (by rw [heads_len]; exact h)]
/-- After k rows are made. -/
def MatA (w2 wr : World) (N k : Nat) : Prop := wr.heap.size = w2.heap.size + 2 + k ∧ Below w2.heap.size w2 wr ∧ Row wr w2.heap.size 22 (heads (w2.heap.size + 2) N k) ∧ Row wr (w2.heap.size + 1) 30 [.slice (some ⟨w2.heap.size, 0, none⟩) N N] ∧ Grid wr (w2.heap.size + 2) N k (fun _ _ => 0)
theorem zeros_row (N : Nat) : (Array.replicate N (Value.int .i64 0)).toList = ints ((List.range N).map fun _ => (0 : Int)) := by
  rw [Array.toList_replicate]
  apply List.ext_getElem?
  intro i
  rcases Nat.lt_or_ge i N with h | h
  · rw [ints_get _ _ (by simpa using h), nth_row _ _ _ h]; simp [h]
  · rw [List.getElem?_eq_none (by simpa using h), List.getElem?_eq_none (by rw [ints_length]; simpa using h)]
theorem MatA.step {w2 wr : World} {N k : Nat} (h : MatA w2 wr N k) : MatA w2 (((wr.alloc (.cells (Array.replicate N (.int .i64 0)) 3)).setCell ⟨w2.heap.size, k, none⟩ (.slice (some ⟨wr.heap.size, 0, none⟩) N N)).drew) N (k + 1) := by
  obtain ⟨h1, h2, h3, h4, h5⟩ := h
  have hR : Row (wr.alloc (.cells (Array.replicate N (.int .i64 0)) 3)) (w2.heap.size + 2 + k) 3 (ints ((List.range N).map fun _ => (0 : Int))) := by
    have := Row.new wr (Array.replicate N (.int .i64 0)) 3
    rw [zeros_row, h1] at this
    exact this
  refine ⟨by simp; omega, ?_, ?_, ?_, ?_⟩
  · exact ((h2.alloc h2.size _).setCell (Nat.le_refl _) _).drew
  · have := (h3.alloc (.cells (Array.replicate N (.int .i64 0)) 3)).set k (.slice (some ⟨wr.heap.size, 0, none⟩) N N)
    rw [h1, heads_succ] at this
    rw [h1]
    exact this
  · exact (h4.alloc _).setOther _ _ (by simp)
  · intro i hi
    rcases Nat.lt_or_ge i k with g | g
    · exact ((h5 i g).alloc _).setOther _ _ (by simp; omega)
    · obtain rfl : i = k := by omega
      exact hR.setOther _ _ (by simp; omega)
/-- While the crossings are counted. -/
def MatB (w2 wr : World) (N bm : Nat) (f : Nat → Int × Int) (G : Nat → Nat → Int) : Prop := Below w2.heap.size w2 wr ∧ Row wr w2.heap.size 22 (heads (w2.heap.size + 2) N N) ∧ Row wr (w2.heap.size + 1) 30 [.slice (some ⟨w2.heap.size, 0, none⟩) N N] ∧ Grid wr (w2.heap.size + 2) N N G ∧ PMap wr bm 65536 f ∧ w2.heap.size + 2 + N ≤ bm
theorem MatB.alloc {w2 wr : World} {N bm : Nat} {f : Nat → Int × Int} {G : Nat → Nat → Int} (h : MatB w2 wr N bm f G) (o : Obj) : MatB w2 (wr.alloc o) N bm f G := by
  obtain ⟨h1, h2, h3, h4, h5, h6⟩ := h
  exact ⟨h1.alloc h1.size _, h2.alloc _, h3.alloc _, fun i hi => (h4 i hi).alloc _, h5.alloc _, h6⟩
theorem MatB.set {w2 wr : World} {N bm : Nat} {f : Nat → Int × Int} {G : Nat → Nat → Int} (h : MatB w2 wr N bm f G) (u o : Nat) (hu : u < N) (v : Int) : MatB w2 (wr.setCell ⟨w2.heap.size + 2 + u, o, none⟩ (.int .i64 v)) N bm f (fun i k => if i = u ∧ k = o then v else G i k) := by
  obtain ⟨h1, h2, h3, h4, h5, h6⟩ := h
  exact ⟨h1.setCell (by simp; omega) _, h2.setOther _ _ (by simp; omega), h3.setOther _ _ (by simp; omega), h4.set hu v, h5.setCell _ (by simp; omega) _, h6⟩
theorem MatB.congr {w2 wr : World} {N bm : Nat} {f : Nat → Int × Int} {G H : Nat → Nat → Int} (h : MatB w2 wr N bm f G) (e : ∀ i k, i < N → k < N → G i k = H i k) : MatB w2 wr N bm f H :=
  ⟨h.1, h.2.1, h.2.2.1, h.2.2.2.1.congr e, h.2.2.2.2⟩
theorem MatB.add {w2 wr : World} {N bm : Nat} {f : Nat → Int × Int} {G : Nat → Nat → Int} (h : MatB w2 wr N bm f G) (u o : Nat) (hu : u < N) (ho : o < N) (s : Int) (hs : -1 ≤ s ∧ s ≤ 1) (hG : ∀ i k, -64 ≤ G i k ∧ G i k ≤ 64) :
    Calls Try.prog 99 #[.int .i64 (u : Int), .int .i64 (o : Int), .int .i64 s, .pointer (some ⟨w2.heap.size + 1, 0, none⟩)] wr fun e w' => e = .returned (.tuple #[]) ∧ w' = wr.setCell ⟨w2.heap.size + 2 + u, o, none⟩ (.int .i64 (G u o + s)) ∧ MatB w2 w' N bm f (fun i k => if i = u ∧ k = o then G u o + s else G i k) := by
  have hR := h.2.1.cell u
  rw [heads_get _ _ _ _ hu, if_pos hu] at hR
  have hn : nth ((List.range N).map (G u)) o = G u o := nth_row _ _ _ ho
  have hm := mat1_any wr (w2.heap.size + 1) w2.heap.size (w2.heap.size + 2) N u o ((List.range N).map (G u)) s hu ho (by simp) (by rw [hn]; exact hG u o) hs h.2.2.1 hR (h.2.2.2.1 u hu)
  rw [hn] at hm
  refine hm.mono ?_
  rintro e w' ⟨he, rfl⟩
  exact ⟨he, rfl, h.set u o hu _⟩
/-- What is counted after c crossings. -/
def accG (S : List Int) (f : Nat → Int × Int) (c i j : Nat) : Int := sumTo S f (isPair i j) c
theorem accG_succ (S : List Int) (f : Nat → Int × Int) (c u o : Nat) (hf : f c = ((u : Int), (o : Int))) (i j : Nat) : accG S f (c + 1) i j = if (u = i ∧ o = j) ∨ (u = j ∧ o = i) then accG S f c i j + nth S c else accG S f c i j := by
  unfold accG
  rw [sumTo, hf]
  show (if isPair (i : Int) j u o = true then _ else _) = _
  have := isPair_iff i j u o
  by_cases g : (u = i ∧ o = j) ∨ (u = j ∧ o = i)
  · rw [if_pos g, if_pos (this.2 g)]
  · rw [if_neg g, if_neg (fun e => g (this.1 e))]
theorem accG_comm (S : List Int) (f : Nat → Int × Int) (c i j : Nat) : accG S f c i j = accG S f c j i := by
  unfold accG
  congr 1
  funext u o
  exact isPair_comm _ _ _ _
theorem accG_bd {S M : List Int} {L : Int} (hv : vldB S M L = true) (f : Nat → Int × Int) (c : Nat) (hc : c ≤ 64) (i j : Nat) : -64 ≤ accG S f c i j ∧ accG S f c i j ≤ 64 := by
  have := sumTo_bd S f (isPair i j) (sign_bd hv) c
  unfold accG
  omega
set_option maxRecDepth 100000 in
set_option maxHeartbeats 4000000 in
theorem matrix_yes (S M : List Int) (L : Int) (aS aM : Option Addr) (cS cM N : Nat) (w : World) (hv : vldB S M L = true) (hN : compsN S M L = (N : Int)) (hNl : N ≤ 1000) (hS : IntsAt w aS S) (hM : IntsAt w aM M) :
    Calls Try.prog 31 #[.agg #[.slice aS S.length cS, .slice aM M.length cM, .int .i64 L]] w fun e w' => ∃ a c, e = .returned (.slice a N c) ∧ Below w.heap.size w w' ∧ OwnRows w' w.heap.size a c (matL S (ownF (strandsL S M L)) N) := by
  obtain ⟨i0, hi0, hz0, hz1, hz2⟩ := info_parts Try.info3
  obtain ⟨i1, hi1, hy0, hy1, hy2⟩ := info_parts Try.info22
  have hs := vldB_shape hv
  have hSl := hs.few
  have hMl : M.length ≤ 256 := by have := hs.len; omega
  have hB : Below w.heap.size w (w.alloc (.cells #[.slice aS S.length cS, .slice aM M.length cM, .int .i64 L] 24)) := (Below.refl _ _).alloc (Nat.le_refl _) _
  obtain ⟨W, hW⟩ : ∃ W, W = w.alloc (.cells #[.slice aS S.length cS, .slice aM M.length cM, .int .i64 L] 24) := ⟨_, rfl⟩
  have Hbox : Hid (Row W w.heap.size 24 [.slice aS S.length cS, .slice aM M.length cM, .int .i64 L]) := Lib.hid (by rw [hW]; exact Row.new w #[.slice aS S.length cS, .slice aM M.length cM, .int .i64 L] 24)
  have HB : Hid (Below w.heap.size w W) := Lib.hid (by rw [hW]; exact hB)
  have HS := Lib.hid hS
  have HM := Lib.hid hM
  have Hv := Lib.hid hv
  have HV : Hid (Calls Try.prog 39 #[.agg #[.slice aS S.length cS, .slice aM M.length cM, .int .i64 L]] W fun e w' => e = .returned (.bool true) ∧ Below W.heap.size W w') := Lib.hid (by
    rw [← hv]
    exact valid_any S M L aS aM cS cM W (by omega) (by omega) (HS.out.later HB.out) (HM.out.later HB.out))
  have HC : Hid (∀ W1, Below w.heap.size w W1 → Calls Try.prog 40 #[.agg #[.slice aS S.length cS, .slice aM M.length cM, .int .i64 L]] W1 fun e w' => e = .returned (.int .i64 (N : Int)) ∧ Below W1.heap.size W1 w') := Lib.hid (fun W1 h1 => by
    rw [← hN]
    exact components_any S M L aS aM cS cM W1 (by omega) (by omega) (HS.out.later h1) (HM.out.later h1))
  have Hlen : Hid ((strandsL S M L).length ≤ N) := Lib.hid (by
    obtain ⟨N', h1, _, h3⟩ := compsN_nat hv
    omega)
  clear hB hS hM hv hN hs
  go_enter Try.func31, Try.ntmps31
  go_wp2_with fail
  rw [← hW]
  refine HV.out.mono ?_
  rintro e w1 ⟨rfl, hb1⟩
  have Hb1 := Lib.hid (below_step HB.out hb1)
  have Hbx1 := Lib.hid (Hbox.out.later hb1 Hbox.out.lt)
  have hc0 := Hbx1.out.cell 0
  have hc1 := Hbx1.out.cell 1
  have hc2 := Hbx1.out.cell 2
  simp only [List.getElem?_cons_succ, List.getElem?_cons_zero] at hc0 hc1 hc2
  clear hb1 HV HB Hbox hW
  go_wp2_with fail
  refine (HC.out w1 Hb1.out).mono ?_
  rintro e w2 ⟨rfl, hb2⟩
  have Hb2 := Lib.hid (below_step Hb1.out hb2)
  have hs2 := Hb2.out.size
  have Hbx2 := Lib.hid (Hbx1.out.later hb2 Hbx1.out.lt)
  clear hb2 HC Hb1 Hbx1 hc0 hc1 hc2
  go_wp2_with (with_reducible refine wpList_make_one rfl (.tmp 17) 30 rfl 22 i1 (.slice none 0 0) 24 Try.underlying30 hi1 hy0 hy1 hy2 rfl .i64 _ N rfl rfl (by omega) (by omega) ?_)
  go_loopg [21] N (fun g i wr => ∃ k : Nat, k ≤ N ∧ g = N - k ∧ i = .int .i64 k ∧ MatA w2 wr N k)
  case atStart =>
    refine ⟨0, Nat.zero_le _, rfl, rfl, by simp, ?_, ?_, ?_, fun i hi => by omega⟩
    · exact ((Below.refl _ _).alloc (Nat.le_refl _) _).alloc (by simp) _
    · rw [heads_zero]
      have := (Row.new w2 (Array.replicate N (Value.slice none 0 0)) 22).alloc (.cells #[.slice (some ⟨w2.heap.size, 0, none⟩) N N] 30)
      rwa [Array.toList_replicate] at this
    · have := Row.new (w2.alloc (.cells (Array.replicate N (Value.slice none 0 0)) 22)) #[.slice (some ⟨w2.heap.size, 0, none⟩) N N] 30
      simpa using this
  case round =>
    obtain ⟨k, hk, rfl, rfl, hA⟩ := hrel
    have HA := Lib.hid hA
    obtain ⟨hsz, hbl, hH, hP, hG⟩ := hA
    have hcP := hP.cell 0
    have hcP2 := (hP.alloc (.cells (Array.replicate N (.int .i64 0)) 3)).cell 0
    simp only [List.getElem?_cons_zero] at hcP hcP2
    by_cases hlt : k < N
    · have hcH := hH.cell k
      have hfH := hH.frozen k
      have hcH2 := (hH.alloc (.cells (Array.replicate N (.int .i64 0)) 3)).cell k
      have hfH2 := (hH.alloc (.cells (Array.replicate N (.int .i64 0)) 3)).frozen k
      rw [heads_get _ _ _ _ hlt, if_neg (Nat.lt_irrefl k)] at hcH hcH2
      have hmk : (Instr.makeSlice 22 (.int .i64 (N : Int)) (.int .i64 (N : Int))).run Try.prog wr.drew = .ok (.slice (some ⟨wr.heap.size, 0, none⟩) N N) (wr.drew.alloc (.cells (Array.replicate N (.int .i64 0)) 3)) := by
        have hr := run_make (P := Try.prog) wr.drew 22 3 i0 (.int .i64 0) Try.underlying22 hi0 hz0 .i64 .i64 N N (by omega) (Int.le_refl _) (by rw [hz2]; omega) (by omega)
        simp only [Int.toNat_natCast, hz1, Nat.mul_one] at hr
        have hm : madeCells (Value.int .i64 0).cells N = Array.replicate N (.int .i64 0) := by
          apply Array.ext'
          show (madeCells #[Value.int .i64 0] N).toList = _
          rw [toList_madeCells_one, Array.toList_replicate]
        rw [hm] at hr
        exact hr
      clear hsz hbl hH hP hG
      go_wp2_with fail
      go_region
      go_wp2_with fail
      go_roundg (N - (k + 1))
      case measure => omega
      case rel => exact ⟨k + 1, by omega, rfl, by go_num, HA.out.step⟩
    · obtain rfl : k = N := by omega
      have hbb := below_step Hb2.out hbl
      have Hbb := Lib.hid hbb
      have Hbx3 := Lib.hid (Hbx2.out.later hbl Hbx2.out.lt)
      have hc0 := Hbx3.out.cell 0
      have hc1 := Hbx3.out.cell 1
      have hc2 := Hbx3.out.cell 2
      simp only [List.getElem?_cons_succ, List.getElem?_cons_zero] at hc0 hc1 hc2
      clear hsz hbl hH hP hG hcP hcP2 hbb
      go_wp2_with fail
      refine (strandsAt_any S M L aS aM cS cM wr Hv.out (HS.out.later Hbb.out) (HM.out.later Hbb.out)).mono ?_
      rintro e w4 ⟨bm, rfl, hb4, hbm, hpm⟩
      have HB0 : Hid (MatB w2 w4 k bm (ownF (strandsL S M L)) (fun _ _ => 0)) := Lib.hid (by
        obtain ⟨hsz, hbl, hH, hP, hG⟩ := HA.out
        exact ⟨below_step hbl hb4, hH.later hb4 hH.lt, hP.later hb4 hP.lt, fun i hi => (hG i hi).later hb4 (hG i hi).lt, hpm, by omega⟩)
      have Hbx4 := Lib.hid (Hbx3.out.later hb4 Hbx3.out.lt)
      have Hb4 := Lib.hid (below_step Hbb.out hb4)
      have hc0 := Hbx4.out.cell 0
      simp only [List.getElem?_cons_zero] at hc0
      clear hb4 hbm hpm Hbx3 Hbb HA hc1 hc2 Hbx2
      go_wp2_with fail
      go_loopg [37] S.length (fun g i wr => ∃ c : Nat, c ≤ S.length ∧ g = S.length - c ∧ i = .int .i64 c ∧ MatB w2 wr k bm (ownF (strandsL S M L)) (accG S (ownF (strandsL S M L)) c))
      case atStart => exact ⟨0, Nat.zero_le _, rfl, rfl, HB0.out⟩
      case round =>
        clear HB0
        obtain ⟨c, hc, rfl, rfl, hB⟩ := hrel
        have HB := Lib.hid hB
        have hbw := below_step Hb2.out hB.1
        have Hbw := Lib.hid hbw
        clear hB hbw
        by_cases hcl : c < S.length
        · obtain ⟨u, o, hf, hu, ho⟩ := owner_lt Hv.out k Hlen.out c hcl
          have Hf := Lib.hid hf
          have Hst := Lib.hid (accG_succ S (ownF (strandsL S M L)) c u o hf)
          have Hcm := Lib.hid (accG_comm S (ownF (strandsL S M L)) c)
          have HGb := Lib.hid (accG_bd Hv.out (ownF (strandsL S M L)) c (by omega))
          have HGb2 := Lib.hid (accG_bd Hv.out (ownF (strandsL S M L)) (c + 1) (by omega))
          have hsb := sign_bd Hv.out c
          have Hpm := Lib.hid HB.out.2.2.2.2.1
          have hzw := Hpm.out.lt
          have hbmz := HB.out.2.2.2.2.2
          obtain ⟨b, off, hab, _, hcS⟩ := (HS.out.later Hbw.out).open (by omega)
          subst hab
          have hcc := hcS c hcl
          generalize hG1 : accG S (ownF (strandsL S M L)) (c + 1) = G1 at *
          have HG1 := Lib.hid hG1
          generalize accG S (ownF (strandsL S M L)) c = G at *
          generalize nth S c = s at *
          clear hf hcS hG1
          have HBa := Lib.hid (HB.out.alloc (.cells #[.int .i64 (u : Int), .int .i64 (o : Int)] 67))
          have Hpr : Hid (Row (wr.alloc (.cells #[.int .i64 (u : Int), .int .i64 (o : Int)] 67)) wr.heap.size 67 [.int .i64 (u : Int), .int .i64 (o : Int)]) := Lib.hid (Row.new wr #[.int .i64 (u : Int), .int .i64 (o : Int)] 67)
          go_wp2_with (first | (with_reducible refine wpList_lookup_pair rfl (.tmp 42) (.tmp 43) rfl _ _ c _ _ rfl rfl rfl (by omega) Hpm.out u o Hf.out ?_))
          refine (HBa.out.add u o hu ho s hsb HGb.out).mono ?_
          rintro e w5 ⟨rfl, hw5, hB5⟩
          have HB5 := Lib.hid hB5
          have Hpr5 : Hid (Row w5 wr.heap.size 67 [.int .i64 (u : Int), .int .i64 (o : Int)]) := Lib.hid (by rw [hw5]; exact Hpr.out.setOther _ _ (by simp; omega))
          have hcp0 := Hpr5.out.cell 0
          have hcp1 := Hpr5.out.cell 1
          simp only [List.getElem?_cons_succ, List.getElem?_cons_zero] at hcp0 hcp1
          clear hw5 hB5
          by_cases huo : u = o
          · have t1 : ((u : Int) != (o : Int)) = false := by rw [bne_eq_false_iff_eq]; omega
            have HB6 : Hid (MatB w2 w5 k bm (ownF (strandsL S M L)) G1) := Lib.hid (HB5.out.congr fun i j _ _ => by
              rw [Hst.out]
              by_cases g : i = u ∧ j = o
              · rw [if_pos g, if_pos (by omega), g.1, g.2]
              · rw [if_neg g, if_neg (by omega)])
            clear huo
            go_wp2_with fail
            go_roundg (S.length - (c + 1))
            case measure => omega
            case rel => exact ⟨c + 1, by omega, rfl, by go_num, by rw [HG1.out]; exact HB6.out⟩
          · have t1 : ((u : Int) != (o : Int)) = true := by rw [bne_iff_ne]; omega
            have HGb3 : Hid (∀ i j : Nat, -64 ≤ (if i = u ∧ j = o then G u o + s else G i j) ∧ (if i = u ∧ j = o then G u o + s else G i j) ≤ 64) := Lib.hid fun i j => by
              by_cases g : i = u ∧ j = o
              · rw [if_pos g]
                have h1 := HGb2.out u o
                rw [Hst.out, if_pos (.inl ⟨rfl, rfl⟩)] at h1
                exact h1
              · rw [if_neg g]; exact HGb.out i j
            have Huo := Lib.hid huo
            clear huo
            go_wp2_with fail
            refine (HB5.out.add o u ho hu s hsb HGb3.out).mono ?_
            rintro e w6 ⟨rfl, hw6, hB6⟩
            clear hw6
            have HB6 : Hid (MatB w2 w6 k bm (ownF (strandsL S M L)) G1) := Lib.hid (hB6.congr fun i j _ _ => by
              have := Huo.out
              rw [Hst.out]
              by_cases g : i = o ∧ j = u
              · rw [if_pos g, if_neg (by omega), if_pos (by omega), g.1, g.2, Hcm.out]
              · rw [if_neg g]
                by_cases g2 : i = u ∧ j = o
                · rw [if_pos g2, if_pos (by omega), g2.1, g2.2]
                · rw [if_neg g2, if_neg (by omega)])
            clear hB6
            go_wp2_with fail
            go_roundg (S.length - (c + 1))
            case measure => omega
            case rel => exact ⟨c + 1, by omega, rfl, by go_num, by rw [HG1.out]; exact HB6.out⟩
        · obtain rfl : c = S.length := by omega
          have hcP := HB.out.2.2.1.cell 0
          simp only [List.getElem?_cons_zero] at hcP
          have HGb := Lib.hid (accG_bd Hv.out (ownF (strandsL S M L)) S.length (by omega))
          have Hfin : Hid (∀ i j : Nat, matE S (ownF (strandsL S M L)) i j = if i = j then accG S (ownF (strandsL S M L)) S.length i j else (accG S (ownF (strandsL S M L)) S.length i j).tdiv 2) := Lib.hid fun i j => rfl
          go_wp2_with fail
          go_loopg [67] k (fun g i wr => ∃ i' : Nat, i' ≤ k ∧ g = k - i' ∧ i = .int .i64 i' ∧ MatB w2 wr k bm (ownF (strandsL S M L)) (fun a b => if a < i' then matE S (ownF (strandsL S M L)) a b else accG S (ownF (strandsL S M L)) S.length a b))
          case atStart => exact ⟨0, Nat.zero_le _, rfl, rfl, HB.out.congr fun a b _ _ => by rw [if_neg (by omega)]⟩
          case round =>
            clear HB
            obtain ⟨i', hi', rfl, rfl, hB⟩ := hrel
            have HB := Lib.hid hB
            clear hB
            by_cases hil : i' < k
            · have hcH := HB.out.2.1.cell i'
              rw [heads_get _ _ _ _ hil, if_pos hil] at hcH
              go_wp2_with fail
              go_loopg [74] k (fun g j wr => ∃ j' : Nat, j' ≤ k ∧ g = k - j' ∧ j = .int .i64 j' ∧ MatB w2 wr k bm (ownF (strandsL S M L)) (fun a b => if a < i' ∨ (a = i' ∧ b < j') then matE S (ownF (strandsL S M L)) a b else accG S (ownF (strandsL S M L)) S.length a b))
              case atStart => exact ⟨0, Nat.zero_le _, rfl, rfl, HB.out.congr fun a b _ _ => by
                by_cases g : a < i'
                · rw [if_pos g, if_pos (.inl g)]
                · rw [if_neg g, if_neg (by omega)]⟩
              case round =>
                obtain ⟨j', hj', rfl, rfl, hB2⟩ := hrel
                have HB2 := Lib.hid hB2
                clear hB2
                by_cases hjl : j' < k
                · have hG := HB2.out.2.2.2.1 i' hil
                  have hn : nth ((List.range k).map fun b => if i' < i' ∨ (i' = i' ∧ b < j') then matE S (ownF (strandsL S M L)) i' b else accG S (ownF (strandsL S M L)) S.length i' b) j' = accG S (ownF (strandsL S M L)) S.length i' j' := by
                    rw [nth_row _ _ _ hjl, if_neg (by omega)]
                  have hcG := hG.int j' (by simpa using hjl)
                  have hfG := hG.frozen j'
                  rw [hn] at hcG
                  have hxb := HGb.out i' j'
                  have Hx := Lib.hid (Hfin.out i' j')
                  by_cases hij : j' = i'
                  · have t1 : ((j' : Int) != (i' : Int)) = false := by rw [bne_eq_false_iff_eq]; omega
                    have HB3 : Hid (MatB w2 wr k bm (ownF (strandsL S M L)) (fun a b => if a < i' ∨ (a = i' ∧ b < j' + 1) then matE S (ownF (strandsL S M L)) a b else accG S (ownF (strandsL S M L)) S.length a b)) := Lib.hid (HB2.out.congr fun a b _ _ => by
                      by_cases g : a < i' ∨ (a = i' ∧ b < j')
                      · rw [if_pos g, if_pos (by omega)]
                      · rw [if_neg g]
                        by_cases g2 : a = i' ∧ b = j'
                        · rw [if_pos (by omega), g2.1, g2.2, Hx.out, if_pos (by omega)]
                        · rw [if_neg (by omega)])
                    clear hij hG hn
                    go_wp2_with fail
                    go_roundg (k - (j' + 1))
                    case measure => omega
                    case rel => exact ⟨j' + 1, by omega, rfl, by go_num, HB3.out⟩
                  · have t1 : ((j' : Int) != (i' : Int)) = true := by rw [bne_iff_ne]; omega
                    have HB3 : Hid (MatB w2 (wr.setCell ⟨w2.heap.size + 2 + i', j', none⟩ (.int .i64 ((accG S (ownF (strandsL S M L)) S.length i' j').tdiv 2))) k bm (ownF (strandsL S M L)) (fun a b => if a < i' ∨ (a = i' ∧ b < j' + 1) then matE S (ownF (strandsL S M L)) a b else accG S (ownF (strandsL S M L)) S.length a b)) := Lib.hid ((HB2.out.set i' j' hil _).congr fun a b _ _ => by
                      by_cases g2 : a = i' ∧ b = j'
                      · rw [if_pos g2, if_pos (by omega), g2.1, g2.2, Hx.out, if_neg (by omega)]
                      · rw [if_neg g2]
                        by_cases g : a < i' ∨ (a = i' ∧ b < j')
                        · rw [if_pos g, if_pos (by omega)]
                        · rw [if_neg g, if_neg (by omega)])
                    generalize accG S (ownF (strandsL S M L)) S.length i' j' = x at *
                    clear hij hG hn
                    go_wp2_with fail
                    go_roundg (k - (j' + 1))
                    case measure => omega
                    case rel => exact ⟨j' + 1, by omega, rfl, by go_num, HB3.out⟩
                · obtain rfl : j' = k := by omega
                  have HB3 : Hid (MatB w2 wr j' bm (ownF (strandsL S M L)) (fun a b => if a < i' + 1 then matE S (ownF (strandsL S M L)) a b else accG S (ownF (strandsL S M L)) S.length a b)) := Lib.hid (HB2.out.congr fun a b _ _ => by
                    by_cases g : a < i' + 1
                    · rw [if_pos (by omega), if_pos g]
                    · rw [if_neg (by omega), if_neg g])
                  clear HB2
                  go_wp2_with fail
                  go_roundg (j' - (i' + 1))
                  case measure => omega
                  case rel => exact ⟨i' + 1, by omega, rfl, by go_num, HB3.out⟩
            · obtain rfl : i' = k := by omega
              have hcP := HB.out.2.2.1.cell 0
              simp only [List.getElem?_cons_zero] at hcP
              have Hend : Hid (Below w.heap.size w wr ∧ OwnRows wr w.heap.size (some ⟨w2.heap.size, 0, none⟩) i' (matL S (ownF (strandsL S M L)) i')) := Lib.hid (by
                have h := HB.out.congr (H := matE S (ownF (strandsL S M L))) fun a b ha _ => if_pos ha
                refine ⟨below_step Hb2.out h.1, heads (w2.heap.size + 2) i' i', ?_, by rw [heads_len]; exact (tab_len _ _ _).symm, fun a v xs h1 h2 => ?_⟩
                · have := h.2.1.own (B := w.heap.size) hs2
                  rwa [heads_len] at this
                · have ha : a < i' := by
                    have := (List.getElem?_eq_some_iff.1 h1).1
                    rwa [heads_len] at this
                  rw [heads_get _ _ _ _ ha, if_pos ha] at h1
                  rw [matL, tab_get _ _ _ _ ha] at h2
                  simp only [Option.some.injEq] at h1 h2
                  subst h1; subst h2
                  refine ⟨_, _, by rw [row_len], ?_⟩
                  have := (h.2.2.2.1 a ha).own (B := w.heap.size) (by omega)
                  rwa [ints_length, row_len] at this)
              clear HB
              go_wp2_with fail
              go_ret
              exact ⟨_, _, rfl, Hend.out⟩
set_option maxRecDepth 100000 in
set_option maxHeartbeats 2000000 in
theorem matrix_no (S M : List Int) (L : Int) (aS aM : Option Addr) (cS cM : Nat) (w : World) (hSl : S.length ≤ 1000000000) (hMl : M.length ≤ 1000000000) (hv : vldB S M L = false) (hS : IntsAt w aS S) (hM : IntsAt w aM M) :
    Calls Try.prog 31 #[.agg #[.slice aS S.length cS, .slice aM M.length cM, .int .i64 L]] w fun e w' => e = .returned (.slice none 0 0) ∧ Below w.heap.size w w' := by
  have hB : Below w.heap.size w (w.alloc (.cells #[.slice aS S.length cS, .slice aM M.length cM, .int .i64 L] 24)) := (Below.refl _ _).alloc (Nat.le_refl _) _
  have HV := Lib.hid (valid_any S M L aS aM cS cM (w.alloc (.cells #[.slice aS S.length cS, .slice aM M.length cM, .int .i64 L] 24)) hSl hMl (hS.later hB) (hM.later hB))
  have HB := Lib.hid hB
  rw [hv] at HV
  clear hB hS hM hv
  go_enter Try.func31, Try.ntmps31
  go_wp2_with fail
  refine HV.out.mono ?_
  rintro e w1 ⟨rfl, hb1⟩
  have Hb1 := Lib.hid (below_of HB.out hb1 (by simp))
  clear hb1
  go_wp2_with fail
  go_ret
  exact ⟨rfl, Hb1.out⟩
end Go.Proofs.Ytkopbcehfbmnmaa
