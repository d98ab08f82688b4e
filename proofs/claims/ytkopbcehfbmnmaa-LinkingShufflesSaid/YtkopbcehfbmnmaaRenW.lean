/- The walk of diagram.Renumber. -/
import Derived.Test.YtkopbcehfbmnmaaMirW
import Derived.Test.YtkopbcehfbmnmaaRenA
import Derived.Deep.DeepCutAuto
namespace Go.Proofs.Ytkopbcehfbmnmaa
open Go Go.RowKit
/-- While the numbers are made. -/
structure RnA (w wx : World) (box : List Value) (bN : Nat) (xs : List Int) : Prop where
  N : Row wx bN 3 (ints xs)
  box : Row wx w.heap.size 24 box
  res : Row wx (w.heap.size + 1) 24 [.slice none 0 0, .slice none 0 0, .int .i64 0]
  below : Below w.heap.size w wx
  lo : w.heap.size + 2 ≤ bN
theorem RnA.set {w wx : World} {box : List Value} {bN : Nat} {xs : List Int} (h : RnA w wx box bN xs) (i : Nat) (x : Int) : RnA w (wx.setCell ⟨bN, i, none⟩ (.int .i64 x)) box bN (xs.set i x) :=
  ⟨h.N.setInt i x, h.box.setOther _ _ (by have := h.lo; show w.heap.size ≠ bN; omega), h.res.setOther _ _ (by have := h.lo; show w.heap.size + 1 ≠ bN; omega), h.below.setCell (by have := h.lo; show w.heap.size ≤ bN; omega) _, h.lo⟩
/-- While the diagram is made. -/
structure RnB (w wx : World) (box : List Value) (bN : Nat) (ns : List Int) (L : Int) (nS nM bD bS bM : Nat) (xs ys : List Int) : Prop where
  A : RnA w wx box bN ns
  D : Row wx bD 24 [.slice (some ⟨bS, 0, none⟩) nS nS, .slice (some ⟨bM, 0, none⟩) nM nM, .int .i64 L]
  S : Row wx bS 3 (ints xs)
  M : Row wx bM 3 (ints ys)
  lo : w.heap.size + 2 ≤ bD ∧ w.heap.size + 2 ≤ bS ∧ w.heap.size + 2 ≤ bM
  ne : bD ≠ bS ∧ bD ≠ bM ∧ bS ≠ bM ∧ bN ≠ bD ∧ bN ≠ bS ∧ bN ≠ bM
theorem RnA.up {w wx wy : World} {box : List Value} {bN : Nat} {ns : List Int} (h : RnA w wx box bN ns) (hb : Below wx.heap.size wx wy) : RnA w wy box bN ns :=
  ⟨h.N.later hb h.N.lt, h.box.later hb h.box.lt, h.res.later hb h.res.lt, below_step h.below hb, h.lo⟩
theorem rnb_begin (w wr : World) (box : List Value) (bN : Nat) (ns : List Int) (hA : RnA w wr box bN ns) (o0 o1 o2 : Array Value) (E0 E1 E2 : TypeId) (L : Int) (nS nM bD bS bM : Nat)
    (hD : ((wr.heap.size = bD ∧ o0.toList = [.slice (some ⟨bS, 0, none⟩) nS nS, .slice (some ⟨bM, 0, none⟩) nM nM, .int .i64 L] ∧ E0 = 24) ∨ (wr.heap.size + 1 = bD ∧ o1.toList = [.slice (some ⟨bS, 0, none⟩) nS nS, .slice (some ⟨bM, 0, none⟩) nM nM, .int .i64 L] ∧ E1 = 24) ∨ (wr.heap.size + 2 = bD ∧ o2.toList = [.slice (some ⟨bS, 0, none⟩) nS nS, .slice (some ⟨bM, 0, none⟩) nM nM, .int .i64 L] ∧ E2 = 24)))
    (hS : ((wr.heap.size = bS ∧ o0 = Array.replicate nS (.int .i64 0) ∧ E0 = 3) ∨ (wr.heap.size + 1 = bS ∧ o1 = Array.replicate nS (.int .i64 0) ∧ E1 = 3) ∨ (wr.heap.size + 2 = bS ∧ o2 = Array.replicate nS (.int .i64 0) ∧ E2 = 3)))
    (hM : ((wr.heap.size = bM ∧ o0 = Array.replicate nM (.int .i64 0) ∧ E0 = 3) ∨ (wr.heap.size + 1 = bM ∧ o1 = Array.replicate nM (.int .i64 0) ∧ E1 = 3) ∨ (wr.heap.size + 2 = bM ∧ o2 = Array.replicate nM (.int .i64 0) ∧ E2 = 3)))
    (hne : bD ≠ bS ∧ bD ≠ bM ∧ bS ≠ bM) :
    RnB w (((wr.alloc (.cells o0 E0)).alloc (.cells o1 E1)).alloc (.cells o2 E2)).drew box bN ns L nS nM bD bS bM (List.replicate nS 0) (List.replicate nM 0) := by
  obtain ⟨c0, c1, c2⟩ := alloc3_rows wr o0 o1 o2 E0 E1 E2
  have hb : Below wr.heap.size wr (((wr.alloc (.cells o0 E0)).alloc (.cells o1 E1)).alloc (.cells o2 E2)).drew := ((((Below.refl _ _).alloc (Nat.le_refl _) _).alloc (by simp) _).alloc (by simp; omega) _).drew
  have hl := hA.N.lt
  have hl2 := hA.lo
  refine ⟨hA.up hb, ?_, ?_, ?_, ?_, ?_⟩
  · rcases hD with ⟨h1, h2, h3⟩ | ⟨h1, h2, h3⟩ | ⟨h1, h2, h3⟩
    · subst h1; subst h3; rw [← h2]; exact c0
    · subst h1; subst h3; rw [← h2]; exact c1
    · subst h1; subst h3; rw [← h2]; exact c2
  · rw [← zeros_ints]
    rcases hS with ⟨h1, h2, h3⟩ | ⟨h1, h2, h3⟩ | ⟨h1, h2, h3⟩
    · subst h1; subst h3; rw [← h2]; exact c0
    · subst h1; subst h3; rw [← h2]; exact c1
    · subst h1; subst h3; rw [← h2]; exact c2
  · rw [← zeros_ints]
    rcases hM with ⟨h1, h2, h3⟩ | ⟨h1, h2, h3⟩ | ⟨h1, h2, h3⟩
    · subst h1; subst h3; rw [← h2]; exact c0
    · subst h1; subst h3; rw [← h2]; exact c1
    · subst h1; subst h3; rw [← h2]; exact c2
  · rcases hD with ⟨h1, _⟩ | ⟨h1, _⟩ | ⟨h1, _⟩ <;> rcases hS with ⟨h2, _⟩ | ⟨h2, _⟩ | ⟨h2, _⟩ <;> rcases hM with ⟨h3, _⟩ | ⟨h3, _⟩ | ⟨h3, _⟩ <;> omega
  · rcases hD with ⟨h1, _⟩ | ⟨h1, _⟩ | ⟨h1, _⟩ <;> rcases hS with ⟨h2, _⟩ | ⟨h2, _⟩ | ⟨h2, _⟩ <;> rcases hM with ⟨h3, _⟩ | ⟨h3, _⟩ | ⟨h3, _⟩ <;> omega
theorem RnB.setS {w wx : World} {box : List Value} {bN : Nat} {ns : List Int} {L : Int} {nS nM bD bS bM : Nat} {xs ys : List Int} (h : RnB w wx box bN ns L nS nM bD bS bM xs ys) (i : Nat) (x : Int) : RnB w (wx.setCell ⟨bS, i, none⟩ (.int .i64 x)).drew box bN ns L nS nM bD bS bM (xs.set i x) ys := by
  obtain ⟨⟨a1, a2, a3, a4, a5⟩, k1, k2, k3, k4, k5⟩ := h
  exact ⟨⟨a1.setOther _ _ (by simp; omega), a2.setOther _ _ (by simp; omega), a3.setOther _ _ (by simp; omega), (a4.setCell (by simp; omega) _).drew, a5⟩, k1.setOther _ _ k5.1, k2.setInt _ _, k3.setOther _ _ (fun e => k5.2.2.1 e.symm), k4, k5⟩
theorem RnB.setM {w wx : World} {box : List Value} {bN : Nat} {ns : List Int} {L : Int} {nS nM bD bS bM : Nat} {xs ys : List Int} (h : RnB w wx box bN ns L nS nM bD bS bM xs ys) (i : Nat) (x : Int) : RnB w (wx.setCell ⟨bM, i, none⟩ (.int .i64 x)).drew box bN ns L nS nM bD bS bM xs (ys.set i x) := by
  obtain ⟨⟨a1, a2, a3, a4, a5⟩, k1, k2, k3, k4, k5⟩ := h
  exact ⟨⟨a1.setOther _ _ (by simp; omega), a2.setOther _ _ (by simp; omega), a3.setOther _ _ (by simp; omega), (a4.setCell (by simp; omega) _).drew, a5⟩, k1.setOther _ _ k5.2.1, k2.setOther _ _ k5.2.2.1, k3.setInt _ _, k4, k5⟩
def RnR (w : World) (S M O : List Int) (L : Int) (e : Ending) (w' : World) : Prop :=
  (e = .returned (.tuple #[.agg #[.slice none 0 0, .slice none 0 0, .int .i64 0], .int .i64 2]) ∧ Below w.heap.size w w') ∨
  ((∀ i, i < S.length → goodAt O S.length i) ∧ DgR w (rnS S O S.length) (rnM M O S.length) L 0 e w')
set_option maxRecDepth 100000 in
set_option maxHeartbeats 16000000 in
theorem renumber_short (S M O : List Int) (L : Int) (aS aM aO : Option Addr) (cS cM cO : Nat) (w : World) (hv : vldB S M L = true) (hOl : O.length ≤ 1000000000) (hOn : O.length ≠ S.length) (hS : IntsAt w aS S) (hM : IntsAt w aM M) (hO : IntsAt w aO O) :
    Calls Try.prog 51 #[.agg #[.slice aS S.length cS, .slice aM M.length cM, .int .i64 L], .slice aO O.length cO] w (RnR w S M O L) := by
  have hs := vldB_shape hv
  have hSl := hs.few
  have hMl : M.length ≤ 256 := by have := hs.len; omega
  have hM4a : 4 * S.length ≤ M.length := by have := hs.len; omega
  have hM4b : M.length ≤ 4 * S.length := by have := hs.len; omega
  have Hmt : Hid (∀ x, x < 4 * S.length → nth M x = ((mt M x : Nat) : Int) ∧ mt M x < 4 * S.length) := Lib.hid hs.mtOk
  have Hsb := Lib.hid hs.signBd
  obtain ⟨W, hW⟩ : ∃ W, W = (w.alloc (.cells #[.slice aS S.length cS, .slice aM M.length cM, .int .i64 L] 24)).alloc (.cells #[.slice none 0 0, .slice none 0 0, .int .i64 0] 24) := ⟨_, rfl⟩
  have hz : W.heap.size = w.heap.size + 2 := by rw [hW]; simp
  have r0 : Row W w.heap.size 24 [.slice aS S.length cS, .slice aM M.length cM, .int .i64 L] := by rw [hW]; exact (Row.new w #[.slice aS S.length cS, .slice aM M.length cM, .int .i64 L] 24).alloc _
  have r1 : Row W (w.heap.size + 1) 24 [.slice none 0 0, .slice none 0 0, .int .i64 0] := by
    have := Row.new (w.alloc (.cells #[.slice aS S.length cS, .slice aM M.length cM, .int .i64 L] 24)) #[.slice none 0 0, .slice none 0 0, .int .i64 0] 24
    rw [hW]; simpa using this
  have hB : Below w.heap.size w W := by rw [hW]; exact ((Below.refl _ _).alloc (Nat.le_refl _) _).alloc (by simp) _
  have HV : Hid (Calls Try.prog 39 #[.agg #[.slice aS S.length cS, .slice aM M.length cM, .int .i64 L]] W fun e w' => e = .returned (.bool true) ∧ Below W.heap.size W w') := Lib.hid (by
    rw [← hv]; exact valid_any S M L aS aM cS cM W (by omega) (by omega) (hS.later hB) (hM.later hB))
  have HS := Lib.hid hS
  have HM := Lib.hid hM
  have HO := Lib.hid hO
  have Hr0 := Lib.hid r0
  have Hr1 := Lib.hid r1
  have HB := Lib.hid hB
  have Hz := Lib.hid hz
  have HOn := Lib.hid hOn
  have hmk1 := run_mk S.length (by omega)
  have hmk2 := run_mk (4 * S.length) (by omega)
  simp only [show ((4 * S.length : Nat) : Int) = 4 * (S.length : Int) from by omega] at hmk2
  have hmk3 := run_mk M.length (by omega)
  clear hv hS hM hO r0 r1 hB hz hs hOn
  go_enter Try.func51, Try.ntmps51
  go_wp2_with fail
  rw [← hW]
  refine HV.out.mono ?_
  rintro e w1 ⟨rfl, hb1⟩
  have Hb1 := Lib.hid hb1
  have Hbb := Lib.hid (below_of HB.out hb1 HB.out.size)
  clear hb1 hW HV
  have hr := Hr0.out.later Hb1.out Hr0.out.lt
  have hc0 := hr.cell 0
  have hc1 := hr.cell 1
  have hc2 := hr.cell 2
  have hR := Hr1.out.later Hb1.out Hr1.out.lt
  have Hr0' := Lib.hid hr
  have Hr1' := Lib.hid hR
  simp only [List.getElem?_cons_succ, List.getElem?_cons_zero] at hc0 hc1 hc2
  clear hr
  have _ := hOl
  have dO : ¬ ((O.length : Int) = (S.length : Int)) := by have := HOn.out; omega
  have hR := hR
  have Hfin : Hid (Below w.heap.size w (((w1.setCell ⟨w.heap.size + 1, 0, none⟩ (.slice none 0 0)).setCell ⟨w.heap.size + 1, 1, none⟩ (.slice none 0 0)).setCell ⟨w.heap.size + 1, 2, none⟩ (.int .i64 0))) := Lib.hid (((Hbb.out.setCell (by simp) _).setCell (by simp) _).setCell (by simp) _)
  have hRf := res_set hR (.slice none 0 0) (.slice none 0 0) (.int .i64 0)
  have hF0 := hRf.cell 0
  have hF1 := hRf.cell 1
  have hF2 := hRf.cell 2
  have hd0 := hR.cell 0
  have hd1 := hR.cell 1
  have hd2 := hR.cell 2
  have hf0 := hR.frozen 0
  have hf1 := hR.frozen 1
  have hf2 := hR.frozen 2
  simp only [List.getElem?_cons_succ, List.getElem?_cons_zero] at hF0 hF1 hF2 hd0 hd1 hd2
  clear hR hRf
  go_wp2_with fail
  refine bodyPost_ret (v := .tuple #[.agg #[.slice none 0 0, .slice none 0 0, .int .i64 0], .int .i64 2]) (by simp [results, Try.results51, go_sem, hF0, hF1, hF2]) rfl ?_
  exact .inl ⟨rfl, Hfin.out⟩
set_option maxRecDepth 100000 in
set_option maxHeartbeats 16000000 in
theorem renumber_same (S M O : List Int) (L : Int) (aS aM aO : Option Addr) (cS cM cO : Nat) (w : World) (hv : vldB S M L = true) (hOn : O.length = S.length) (hS : IntsAt w aS S) (hM : IntsAt w aM M) (hO : IntsAt w aO O) :
    Calls Try.prog 51 #[.agg #[.slice aS S.length cS, .slice aM M.length cM, .int .i64 L], .slice aO S.length cO] w (RnR w S M O L) := by
  have hs := vldB_shape hv
  have hSl := hs.few
  have hMl : M.length ≤ 256 := by have := hs.len; omega
  have hM4a : 4 * S.length ≤ M.length := by have := hs.len; omega
  have hM4b : M.length ≤ 4 * S.length := by have := hs.len; omega
  have Hmt : Hid (∀ x, x < 4 * S.length → nth M x = ((mt M x : Nat) : Int) ∧ mt M x < 4 * S.length) := Lib.hid hs.mtOk
  have Hsb := Lib.hid hs.signBd
  obtain ⟨W, hW⟩ : ∃ W, W = (w.alloc (.cells #[.slice aS S.length cS, .slice aM M.length cM, .int .i64 L] 24)).alloc (.cells #[.slice none 0 0, .slice none 0 0, .int .i64 0] 24) := ⟨_, rfl⟩
  have hz : W.heap.size = w.heap.size + 2 := by rw [hW]; simp
  have r0 : Row W w.heap.size 24 [.slice aS S.length cS, .slice aM M.length cM, .int .i64 L] := by rw [hW]; exact (Row.new w #[.slice aS S.length cS, .slice aM M.length cM, .int .i64 L] 24).alloc _
  have r1 : Row W (w.heap.size + 1) 24 [.slice none 0 0, .slice none 0 0, .int .i64 0] := by
    have := Row.new (w.alloc (.cells #[.slice aS S.length cS, .slice aM M.length cM, .int .i64 L] 24)) #[.slice none 0 0, .slice none 0 0, .int .i64 0] 24
    rw [hW]; simpa using this
  have hB : Below w.heap.size w W := by rw [hW]; exact ((Below.refl _ _).alloc (Nat.le_refl _) _).alloc (by simp) _
  have HV : Hid (Calls Try.prog 39 #[.agg #[.slice aS S.length cS, .slice aM M.length cM, .int .i64 L]] W fun e w' => e = .returned (.bool true) ∧ Below W.heap.size W w') := Lib.hid (by
    rw [← hv]; exact valid_any S M L aS aM cS cM W (by omega) (by omega) (hS.later hB) (hM.later hB))
  have HS := Lib.hid hS
  have HM := Lib.hid hM
  have HO := Lib.hid hO
  have Hr0 := Lib.hid r0
  have Hr1 := Lib.hid r1
  have HB := Lib.hid hB
  have Hz := Lib.hid hz
  have HOn := Lib.hid hOn
  have hmk1 := run_mk S.length (by omega)
  have hmk2 := run_mk (4 * S.length) (by omega)
  simp only [show ((4 * S.length : Nat) : Int) = 4 * (S.length : Int) from by omega] at hmk2
  have hmk3 := run_mk M.length (by omega)
  clear hv hS hM hO r0 r1 hB hz hs hOn
  go_enter Try.func51, Try.ntmps51
  go_wp2_with fail
  rw [← hW]
  refine HV.out.mono ?_
  rintro e w1 ⟨rfl, hb1⟩
  have Hb1 := Lib.hid hb1
  have Hbb := Lib.hid (below_of HB.out hb1 HB.out.size)
  clear hb1 hW HV
  have hr := Hr0.out.later Hb1.out Hr0.out.lt
  have hc0 := hr.cell 0
  have hc1 := hr.cell 1
  have hc2 := hr.cell 2
  have hR := Hr1.out.later Hb1.out Hr1.out.lt
  have Hr0' := Lib.hid hr
  have Hr1' := Lib.hid hR
  simp only [List.getElem?_cons_succ, List.getElem?_cons_zero] at hc0 hc1 hc2
  clear hr
  have HA0 : Hid (RnA w (w1.alloc (.cells (Array.replicate S.length (.int .i64 0)) 3)) [.slice aS S.length cS, .slice aM M.length cM, .int .i64 L] w1.heap.size (fillTo S.length (fun _ => -1) 0)) := Lib.hid (by
    have hb : Below w1.heap.size w1 (w1.alloc (.cells (Array.replicate S.length (.int .i64 0)) 3)) := (Below.refl _ _).alloc (Nat.le_refl _) _
    refine ⟨?_, Hr0'.out.later hb Hr0'.out.lt, Hr1'.out.later hb Hr1'.out.lt, below_step Hbb.out hb, by have := Hb1.out.size; have := Hz.out; omega⟩
    have := Row.new w1 (Array.replicate S.length (.int .i64 0)) 3
    rw [zeros_ints] at this
    exact this)
  clear hR
  go_wp2_with fail
  clear hc0 hc1 hc2
  go_loopg [32] S.length (fun g i wr => ∃ c : Nat, c ≤ S.length ∧ g = S.length - c ∧ i = .int .i64 c ∧ RnA w wr [.slice aS S.length cS, .slice aM M.length cM, .int .i64 L] w1.heap.size (fillTo S.length (fun _ => -1) c))
  case atStart => exact ⟨0, Nat.zero_le _, rfl, rfl, HA0.out⟩
  case round =>
    clear HA0
    obtain ⟨c, hc, rfl, rfl, hA⟩ := hrel
    have HA := Lib.hid hA
    clear hA
    by_cases hcl : c < S.length
    · have hcX := HA.out.N.int c (by rw [fillTo_len]; exact hcl)
      have hfX := HA.out.N.frozen c
      have Hst := Lib.hid (HA.out.set c (-1))
      go_wp2_with fail
      go_roundg (S.length - (c + 1))
      case measure => omega
      case rel => exact ⟨c + 1, by omega, rfl, by go_num, Hst.out⟩
    · obtain rfl : c = S.length := by omega
      have HA1 : Hid (RnA w wr [.slice aS S.length cS, .slice aM M.length cM, .int .i64 L] w1.heap.size (numTo O S.length 0)) := Lib.hid (by
        have := HA.out
        rw [fillTo_all] at this
        exact this)
      clear HA
      go_wp2_with fail
      go_loopg [41] S.length (fun g i wr => ∃ c : Nat, c ≤ S.length ∧ g = S.length - c ∧ i = .int .i64 c ∧ (∀ j, j < c → goodAt O S.length j) ∧ RnA w wr [.slice aS S.length cS, .slice aM M.length cM, .int .i64 L] w1.heap.size (numTo O S.length c))
      case atStart => exact ⟨0, Nat.zero_le _, rfl, rfl, fun j hj => absurd hj (Nat.not_lt_zero _), HA1.out⟩
      case round =>
        clear HA1
        obtain ⟨c, hc, rfl, rfl, hgd, hA⟩ := hrel
        have HA := Lib.hid hA
        have Hgd := Lib.hid hgd
        clear hA hgd
        by_cases hcl : c < S.length
        · obtain ⟨bo, oo, hab, _, hcO⟩ := (HO.out.later HA.out.below).open (by have := HOn.out; omega)
          subst hab
          have hco := hcO c (by have := HOn.out; omega)
          clear hcO
          by_cases h0 : nth O c < 0
          · generalize nth O c = v at *
            have hR := HA.out.res
            have Hfin : Hid (Below w.heap.size w (((wr.setCell ⟨w.heap.size + 1, 0, none⟩ (.slice none 0 0)).setCell ⟨w.heap.size + 1, 1, none⟩ (.slice none 0 0)).setCell ⟨w.heap.size + 1, 2, none⟩ (.int .i64 0))) := Lib.hid (((HA.out.below.setCell (by simp) _).setCell (by simp) _).setCell (by simp) _)
            have hRf := res_set hR (.slice none 0 0) (.slice none 0 0) (.int .i64 0)
            have hF0 := hRf.cell 0
            have hF1 := hRf.cell 1
            have hF2 := hRf.cell 2
            have hd0 := hR.cell 0
            have hd1 := hR.cell 1
            have hd2 := hR.cell 2
            have hf0 := hR.frozen 0
            have hf1 := hR.frozen 1
            have hf2 := hR.frozen 2
            simp only [List.getElem?_cons_succ, List.getElem?_cons_zero] at hF0 hF1 hF2 hd0 hd1 hd2
            clear hR hRf
            go_wp2_with fail
            refine bodyPost_ret (v := .tuple #[.agg #[.slice none 0 0, .slice none 0 0, .int .i64 0], .int .i64 2]) (by simp [results, Try.results51, go_sem, hF0, hF1, hF2]) rfl ?_
            exact .inl ⟨rfl, Hfin.out⟩
          · by_cases h1 : (S.length : Int) ≤ nth O c
            · generalize nth O c = v at *
              have hR := HA.out.res
              have Hfin : Hid (Below w.heap.size w (((wr.setCell ⟨w.heap.size + 1, 0, none⟩ (.slice none 0 0)).setCell ⟨w.heap.size + 1, 1, none⟩ (.slice none 0 0)).setCell ⟨w.heap.size + 1, 2, none⟩ (.int .i64 0))) := Lib.hid (((HA.out.below.setCell (by simp) _).setCell (by simp) _).setCell (by simp) _)
              have hRf := res_set hR (.slice none 0 0) (.slice none 0 0) (.int .i64 0)
              have hF0 := hRf.cell 0
              have hF1 := hRf.cell 1
              have hF2 := hRf.cell 2
              have hd0 := hR.cell 0
              have hd1 := hR.cell 1
              have hd2 := hR.cell 2
              have hf0 := hR.frozen 0
              have hf1 := hR.frozen 1
              have hf2 := hR.frozen 2
              simp only [List.getElem?_cons_succ, List.getElem?_cons_zero] at hF0 hF1 hF2 hd0 hd1 hd2
              clear hR hRf
              go_wp2_with fail
              refine bodyPost_ret (v := .tuple #[.agg #[.slice none 0 0, .slice none 0 0, .int .i64 0], .int .i64 2]) (by simp [results, Try.results51, go_sem, hF0, hF1, hF2]) rfl ?_
              exact .inl ⟨rfl, Hfin.out⟩
            · obtain ⟨x, hx⟩ : ∃ x, x = ordN O c := ⟨_, rfl⟩
              have hx1 : nth O c = (x : Int) := by rw [hx]; unfold ordN; omega
              have hx2 : x < S.length := by omega
              have hcX := HA.out.N.int x (by rw [numTo_len]; exact hx2)
              have hfX := HA.out.N.frozen x
              have hbd := numTo_bd O S.length c x
              by_cases h2 : 0 ≤ nth (numTo O S.length c) x
              · rw [hx1] at hco
                clear hx hx1 h0 h1
                generalize nth (numTo O S.length c) x = v at *
                have hR := HA.out.res
                have Hfin : Hid (Below w.heap.size w (((wr.setCell ⟨w.heap.size + 1, 0, none⟩ (.slice none 0 0)).setCell ⟨w.heap.size + 1, 1, none⟩ (.slice none 0 0)).setCell ⟨w.heap.size + 1, 2, none⟩ (.int .i64 0))) := Lib.hid (((HA.out.below.setCell (by simp) _).setCell (by simp) _).setCell (by simp) _)
                have hRf := res_set hR (.slice none 0 0) (.slice none 0 0) (.int .i64 0)
                have hF0 := hRf.cell 0
                have hF1 := hRf.cell 1
                have hF2 := hRf.cell 2
                have hd0 := hR.cell 0
                have hd1 := hR.cell 1
                have hd2 := hR.cell 2
                have hf0 := hR.frozen 0
                have hf1 := hR.frozen 1
                have hf2 := hR.frozen 2
                simp only [List.getElem?_cons_succ, List.getElem?_cons_zero] at hF0 hF1 hF2 hd0 hd1 hd2
                clear hR hRf
                go_wp2_with fail
                refine bodyPost_ret (v := .tuple #[.agg #[.slice none 0 0, .slice none 0 0, .int .i64 0], .int .i64 2]) (by simp [results, Try.results51, go_sem, hF0, hF1, hF2]) rfl ?_
                exact .inl ⟨rfl, Hfin.out⟩
              · have Hgd2 : Hid (∀ j, j < c + 1 → goodAt O S.length j) := Lib.hid fun j hj => by
                  rcases Nat.lt_or_ge j c with h | h
                  · exact Hgd.out j h
                  · obtain rfl : j = c := by omega
                    exact ⟨by omega, by omega, by rw [← hx]; omega⟩
                have Hst : Hid (RnA w (wr.setCell ⟨w1.heap.size, x, none⟩ (.int .i64 (c : Int))) [.slice aS S.length cS, .slice aM M.length cM, .int .i64 L] w1.heap.size (numTo O S.length (c + 1))) := Lib.hid (by
                  have := HA.out.set x (c : Int)
                  rw [hx] at this
                  rw [hx]
                  exact this)
                rw [hx1] at hco
                clear hx hx1 h0 h1
                generalize nth (numTo O S.length c) x = v at *
                go_wp2_with fail
                go_roundg (S.length - (c + 1))
                case measure => omega
                case rel => exact ⟨c + 1, by omega, rfl, by go_num, Hgd2.out, Hst.out⟩
        · obtain rfl : c = S.length := by omega
          have hl0 := HA.out.box.cell 2
          have hl1 := fun o => (HA.out.box.alloc o).cell 2
          have hl2 := fun o o' => ((HA.out.box.alloc o).alloc o').cell 2
          have hl3 := fun o o' o'' => (((HA.out.box.alloc o).alloc o').alloc o'').cell 2
          simp only [List.getElem?_cons_succ, List.getElem?_cons_zero] at hl0 hl1 hl2 hl3
          go_upto_region 19 with fail
          go_cut [11] (fun s11 wx => ∃ bD bS bM, s11 = .pointer (some ⟨bD, 0, none⟩) ∧ RnB w wx [.slice aS S.length cS, .slice aM M.length cM, .int .i64 L] w1.heap.size (numTo O S.length S.length) L S.length (4 * S.length) bD bS bM (List.replicate S.length 0) (List.replicate (4 * S.length) 0))
          case first =>
            go_region
            all_goals (go_wp2_with fail; go_meet)
            all_goals first
              | (refine ⟨_, wr.heap.size, wr.heap.size + 1, rfl, rnb_begin w wr _ _ _ HA.out _ _ _ _ _ _ L _ _ _ _ _ ?_ ?_ ?_ ?_⟩ <;> first | omega | (simp; done))
              | (refine ⟨_, wr.heap.size, wr.heap.size + 2, rfl, rnb_begin w wr _ _ _ HA.out _ _ _ _ _ _ L _ _ _ _ _ ?_ ?_ ?_ ?_⟩ <;> first | omega | (simp; done))
              | (refine ⟨_, wr.heap.size + 1, wr.heap.size, rfl, rnb_begin w wr _ _ _ HA.out _ _ _ _ _ _ L _ _ _ _ _ ?_ ?_ ?_ ?_⟩ <;> first | omega | (simp; done))
              | (refine ⟨_, wr.heap.size + 1, wr.heap.size + 2, rfl, rnb_begin w wr _ _ _ HA.out _ _ _ _ _ _ L _ _ _ _ _ ?_ ?_ ?_ ?_⟩ <;> first | omega | (simp; done))
              | (refine ⟨_, wr.heap.size + 2, wr.heap.size, rfl, rnb_begin w wr _ _ _ HA.out _ _ _ _ _ _ L _ _ _ _ _ ?_ ?_ ?_ ?_⟩ <;> first | omega | (simp; done))
              | (refine ⟨_, wr.heap.size + 2, wr.heap.size + 1, rfl, rnb_begin w wr _ _ _ HA.out _ _ _ _ _ _ L _ _ _ _ _ ?_ ?_ ?_ ?_⟩ <;> first | omega | (simp; done))
          case rest =>
            obtain ⟨bD, bS, bM, rfl, hB⟩ := hcut
            have HB0 := Lib.hid hB
            clear hB hmk1 hmk2 hmk3 hl0 hl1 hl2 hl3 HA
            go_wp2_with fail
            go_loopg [76] S.length (fun g i wr => ∃ c : Nat, c ≤ S.length ∧ g = S.length - c ∧ i = .int .i64 c ∧ RnB w wr [.slice aS S.length cS, .slice aM M.length cM, .int .i64 L] w1.heap.size (numTo O S.length S.length) L S.length (4 * S.length) bD bS bM (fillTo S.length (fun i => nth S (ordN O i)) c) (fillTo (4 * S.length) (rnAt M O S.length) (4 * c)))
            case atStart => exact ⟨0, Nat.zero_le _, rfl, rfl, HB0.out⟩
            case round =>
              clear HB0
              obtain ⟨c, hc, rfl, rfl, hB⟩ := hrel
              have HBb := Lib.hid hB
              clear hB
              by_cases hcl : c < S.length
              · obtain ⟨bs, os, hab, _, hcS⟩ := (HS.out.later HBb.out.A.below).open (by omega)
                subst hab
                obtain ⟨bo, oo, hab, _, hcO⟩ := (HO.out.later HBb.out.A.below).open (by have := HOn.out; omega)
                subst hab
                obtain ⟨x, hx⟩ : ∃ x, x = ordN O c := ⟨_, rfl⟩
                have hxl : x < S.length := by rw [hx]; exact ordN_lt Hgd.out hcl
                have hxo : nth O c = (x : Int) := by have := (Hgd.out c hcl).1; rw [hx]; unfold ordN; omega
                have hco := hcO c (by have := HOn.out; omega)
                rw [hxo] at hco
                have hcs := hcS x hxl
                have hcD := HBb.out.D.cell 0
                have hcB := HBb.out.A.box.cell 0
                simp only [List.getElem?_cons_zero] at hcD hcB
                have hcX := HBb.out.S.int c (by rw [fillTo_len]; exact hcl)
                have hfX := HBb.out.S.frozen c
                have Hst : Hid (RnB w ((wr.setCell ⟨bS, c, none⟩ (.int .i64 (nth S x))).drew) [.slice (some ⟨bs, os, none⟩) S.length cS, .slice aM M.length cM, .int .i64 L] w1.heap.size (numTo O S.length S.length) L S.length (4 * S.length) bD bS bM (fillTo S.length (fun i => nth S (ordN O i)) (c + 1)) (fillTo (4 * S.length) (rnAt M O S.length) (4 * c + 0))) := Lib.hid (by
                  have := HBb.out.setS c (nth S x)
                  rw [hx] at this
                  rw [hx]
                  exact this)
                have Hx := Lib.hid hx
                have hb0 := Hsb.out x
                generalize nth S x = sv at *
                generalize nth (fillTo S.length (fun i => nth S (ordN O i)) c) c = xv at *
                clear hcS hcO hxo hx HBb
                go_wp2_with fail
                go_region
                all_goals
                  clear hco hcs hcD hcB hcX hfX
                  go_wp2_with fail
                  go_loopg [90] 4 (fun g i wr => ∃ s : Nat, s ≤ 4 ∧ g = 4 - s ∧ i = .int .i64 s ∧ RnB w wr [.slice (some ⟨bs, os, none⟩) S.length cS, .slice aM M.length cM, .int .i64 L] w1.heap.size (numTo O S.length S.length) L S.length (4 * S.length) bD bS bM (fillTo S.length (fun i => nth S (ordN O i)) (c + 1)) (fillTo (4 * S.length) (rnAt M O S.length) (4 * c + s)))
                  case atStart => exact ⟨0, Nat.zero_le _, rfl, rfl, Hst.out⟩
                  case round =>
                    clear Hst
                    obtain ⟨s, hs4, rfl, rfl, hB⟩ := hrel
                    have HBz := Lib.hid hB
                    clear hB
                    by_cases hsl : s < 4
                    · obtain ⟨bm, om, hab, _, hcM⟩ := (HM.out.later HBz.out.A.below).open (by omega)
                      subst hab
                      obtain ⟨hm1, hm2⟩ := Hmt.out (4 * x + s) (by omega)
                      have hcm := hcM (4 * x + s) (by omega)
                      rw [hm1] at hcm
                      obtain ⟨m, hm⟩ : ∃ m, m = mt M (4 * x + s) := ⟨_, rfl⟩
                      rw [← hm] at hcm hm2
                      obtain ⟨hy1, hy2, _⟩ := num_back Hgd.out (c := m / 4) (by omega)
                      obtain ⟨y, hy⟩ : ∃ y, y = back (ordN O) S.length (m / 4) := ⟨_, rfl⟩
                      rw [← hy] at hy1 hy2
                      have hcN := HBz.out.A.N.int (m / 4) (by rw [numTo_len]; omega)
                      rw [hy1] at hcN
                      have hcD := HBz.out.D.cell 1
                      have hcB := HBz.out.A.box.cell 1
                      simp only [List.getElem?_cons_succ, List.getElem?_cons_zero] at hcD hcB
                      have hcX := HBz.out.M.int (4 * c + s) (by rw [fillTo_len]; omega)
                      have hfX := HBz.out.M.frozen (4 * c + s)
                      have Hrn : Hid (rnAt M O S.length (4 * c + s) = 4 * (y : Int) + (m : Int) % 4) := Lib.hid (by
                        unfold rnAt
                        rw [show (4 * c + s) / 4 = c from by omega, show (4 * c + s) % 4 = s from by omega, ← Hx.out, ← hm, hy1]
                        omega)
                      have Hst : Hid (RnB w ((wr.setCell ⟨bM, 4 * c + s, none⟩ (.int .i64 (4 * (y : Int) + (m : Int) % 4))).drew) [.slice (some ⟨bs, os, none⟩) S.length cS, .slice (some ⟨bm, om, none⟩) M.length cM, .int .i64 L] w1.heap.size (numTo O S.length S.length) L S.length (4 * S.length) bD bS bM (fillTo S.length (fun i => nth S (ordN O i)) (c + 1)) (fillTo (4 * S.length) (rnAt M O S.length) (4 * c + (s + 1)))) := Lib.hid (by
                        have := HBz.out.setM (4 * c + s) (4 * (y : Int) + (m : Int) % 4)
                        rw [← Hrn.out] at this
                        rw [← Hrn.out]
                        exact this)
                      generalize nth (fillTo (4 * S.length) (rnAt M O S.length) (4 * c + s)) (4 * c + s) = xw at *
                      clear hcM hm1 hm hy hy1 Hrn HBz
                      go_wp2_with fail
                      go_region
                      all_goals
                        go_wp2_with fail
                        go_roundg (4 - (s + 1))
                        case measure => omega
                        case rel => exact ⟨s + 1, by omega, rfl, by go_num, Hst.out⟩
                    · obtain rfl : s = 4 := by omega
                      go_wp2_with fail
                      go_roundg (S.length - (c + 1))
                      case measure => omega
                      case rel => exact ⟨c + 1, by omega, rfl, by go_num, HBz.out⟩
              · obtain rfl : c = S.length := by omega
                have HA := HBb.out.A
                have hcD0 := HBb.out.D.cell 0
                have hcD1 := HBb.out.D.cell 1
                have hcD2 := HBb.out.D.cell 2
                have hcR0 := HA.res.cell 0
                have hcR1 := HA.res.cell 1
                have hcR2 := HA.res.cell 2
                have hfR0 := HA.res.frozen 0
                have hfR1 := HA.res.frozen 1
                have hfR2 := HA.res.frozen 2
                simp only [List.getElem?_cons_succ, List.getElem?_cons_zero] at hcD0 hcD1 hcD2 hcR0 hcR1 hcR2
                have HAh := Lib.hid HA
                clear HA
                go_wp2_with fail
                obtain ⟨Wf, hWf⟩ : ∃ Wf, Wf = ((wr.setCell ⟨w.heap.size + 1, 0, none⟩ (.slice (some ⟨bS, 0, none⟩) S.length S.length)).setCell ⟨w.heap.size + 1, 1, none⟩ (.slice (some ⟨bM, 0, none⟩) (4 * S.length) (4 * S.length))).setCell ⟨w.heap.size + 1, 2, none⟩ (.int .i64 L) := ⟨_, rfl⟩
                rw [← hWf]
                have hRf : Row Wf (w.heap.size + 1) 24 [.slice (some ⟨bS, 0, none⟩) S.length S.length, .slice (some ⟨bM, 0, none⟩) (4 * S.length) (4 * S.length), .int .i64 L] := by
                  rw [hWf]; exact res_set HAh.out.res _ _ _
                have Hfin : Hid (Row Wf bS 3 (ints (rnS S O S.length)) ∧ Row Wf bM 3 (ints (rnM M O S.length)) ∧ Below w.heap.size w Wf) := Lib.hid (by
                  obtain ⟨⟨a1, a2, a3, a4, a5⟩, k1, k2, k3, k4, k5⟩ := HBb.out
                  rw [hWf, rnS, rnM, ← fillTo_all, ← fillTo_all]
                  exact ⟨((k2.setOther _ _ (by simp; omega)).setOther _ _ (by simp; omega)).setOther _ _ (by simp; omega), ((k3.setOther _ _ (by simp; omega)).setOther _ _ (by simp; omega)).setOther _ _ (by simp; omega), ((a4.setCell (by simp) _).setCell (by simp) _).setCell (by simp) _⟩)
                have Hll : Hid ((rnS S O S.length).length = S.length ∧ (rnM M O S.length).length = 4 * S.length) := Lib.hid ⟨fillL_len _ _, fillL_len _ _⟩
                have hF0 := hRf.cell 0
                have hF1 := hRf.cell 1
                have hF2 := hRf.cell 2
                simp only [List.getElem?_cons_succ, List.getElem?_cons_zero] at hF0 hF1 hF2
                clear hWf hRf hcD0 hcD1 hcD2 hcR0 hcR1 hcR2 hfR0 hfR1 hfR2
                refine bodyPost_ret (v := .tuple #[.agg #[.slice (some ⟨bS, 0, none⟩) S.length S.length, .slice (some ⟨bM, 0, none⟩) (4 * S.length) (4 * S.length), .int .i64 L], .int .i64 0]) (by simp [results, Try.results51, go_sem, hF0, hF1, hF2]) rfl ?_
                exact .inr ⟨Hgd.out, some ⟨bS, 0, none⟩, some ⟨bM, 0, none⟩, S.length, 4 * S.length, by rw [Hll.out.1, Hll.out.2], Hfin.out.1.at, Hfin.out.2.1.at, Hfin.out.2.2⟩
end Go.Proofs.Ytkopbcehfbmnmaa
