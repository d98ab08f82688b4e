/- The walks of connect.outgoing, end, cross. -/
import Derived.Test.YtmjoijfafachhaaOutW
import Derived.Test.YtmjoijfafachhaaConM
import Derived.Test.YtmjoijfafachhaaConE
namespace Go.Proofs.Ytmjoijfafachhaa
open Go Go.RowKit
set_option maxHeartbeats 1000000 in
theorem coutgoing_any (S M : List Int) (L : Int) (aS aM : Option Addr) (cS cM : Nat) (h : Nat) (w : World) (hh : h < 4 * S.length) (hb : S.length ≤ 1000000) (hS : IntsAt w aS S) :
    Calls Try.prog 57 #[.agg #[.slice aS S.length cS, .slice aM M.length cM, .int .i64 L], .int .i64 (h : Int)] w fun e w' => e = .returned (.bool (outB S h)) ∧ Below w.heap.size w w' := by
  obtain ⟨b, off, rfl, hbl, hc⟩ := hS.open (by omega)
  have hc1 := hc (h / 4) (by omega)
  have hlt : (h : Int) / 4 < (S.length : Int) := by omega
  clear hc hS
  have hB : ∀ o, Below w.heap.size w (w.alloc o) := fun o => (Below.refl _ _).alloc (Nat.le_refl _) o
  rcases (show h % 4 = 0 ∨ h % 4 = 1 ∨ h % 4 = 2 ∨ h % 4 = 3 by omega) with e | e | e | e
  · have hv := outB_0 S h e
    have e' : ((h : Int) % 4) = 0 := by omega
    clear e
    have t1 : (((h : Int) % 4) == 1) = false := by rw [e']; rfl
    have t2 : (((h : Int) % 4) == 2) = false := by rw [e']; rfl
    have t3 : (((h : Int) % 4) == 3) = false := by rw [e']; rfl
    clear e'
    go_enter Try.func57, Try.ntmps57
    go_wp2
    go_ret
    exact ⟨ret_bool hv.symm, hB _⟩
  · have hv := Lib.hid (outB_1 S h e)
    have e' : ((h : Int) % 4) = 1 := by omega
    clear e
    have t1 : (((h : Int) % 4) == 1) = true := by rw [e']; rfl
    have t2 : (((h : Int) % 4) == 2) = false := by rw [e']; rfl
    have t3 : (((h : Int) % 4) == 3) = false := by rw [e']; rfl
    clear e'
    cases hs : (nth S (h / 4) == 1)
    · have hr := hv.out.trans hs
      go_enter Try.func57, Try.ntmps57
      go_wp2
      go_ret
      exact ⟨ret_bool hr.symm, hB _⟩
    · have hr := hv.out.trans hs
      go_enter Try.func57, Try.ntmps57
      go_wp2
      go_ret
      exact ⟨ret_bool hr.symm, hB _⟩
  · have hv := outB_2 S h e
    have e' : ((h : Int) % 4) = 2 := by omega
    clear e
    have t2 : (((h : Int) % 4) == 2) = true := by rw [e']; rfl
    clear e'
    go_enter Try.func57, Try.ntmps57
    go_wp2
    go_ret
    exact ⟨ret_bool hv.symm, hB _⟩
  · have hv := Lib.hid (outB_3 S h e)
    have e' : ((h : Int) % 4) = 3 := by omega
    clear e
    have t1 : (((h : Int) % 4) == 1) = false := by rw [e']; rfl
    have t2 : (((h : Int) % 4) == 2) = false := by rw [e']; rfl
    have t3 : (((h : Int) % 4) == 3) = true := by rw [e']; rfl
    clear e'
    go_enter Try.func57, Try.ntmps57
    go_wp2
    go_ret
    exact ⟨ret_bool hv.out.symm, hB _⟩
/-- An outgoing half-edge, or a loop. -/
def placeB (S : List Int) (L x : Int) : Bool := if x = -1 then decide (0 < L) else decide (0 ≤ x) && decide (x < 4 * (S.length : Int)) && outB S x.toNat
theorem placeB_loop (S : List Int) (L : Int) : placeB S L (-1) = decide (0 < L) := if_pos rfl
theorem placeB_out {S : List Int} {L x : Int} (h : x ≠ -1) (g : ¬ (0 ≤ x ∧ x < 4 * (S.length : Int))) : placeB S L x = false := by
  unfold placeB; rw [if_neg h]
  by_cases a : 0 ≤ x
  · rw [decide_eq_false (fun b => g ⟨a, b⟩)]; simp
  · rw [decide_eq_false a]; simp
theorem placeB_at {S : List Int} {L : Int} {h : Nat} (hh : h < 4 * S.length) : placeB S L (h : Int) = outB S h := by
  unfold placeB
  rw [if_neg (by omega), decide_eq_true (by omega), decide_eq_true (by omega)]; simp
set_option maxRecDepth 100000 in
set_option maxHeartbeats 1000000 in
theorem end_any (S M : List Int) (L : Int) (aS aM : Option Addr) (cS cM : Nat) (x : Int) (w : World) (hb : S.length ≤ 1000000) (hl : M.length = 4 * S.length) (hS : IntsAt w aS S) :
    Calls Try.prog 70 #[.agg #[.slice aS S.length cS, .slice aM M.length cM, .int .i64 L], .int .i64 x] w fun e w' => e = .returned (.bool (placeB S L x)) ∧ Below w.heap.size w w' := by
  have H0 := Lib.hid ((HH.start w).alloc #[.slice aS S.length cS, .slice aM M.length cM, .int .i64 L] 24 rfl rfl)
  have c0 := H0.out.cell (k := 0) (i := 0) rfl rfl
  have c1 := H0.out.cell (k := 0) (i := 1) rfl rfl
  have c2 := H0.out.cell (k := 0) (i := 2) rfl rfl
  by_cases e1 : x = -1
  · subst e1
    rw [placeB_loop]
    clear hl
    go_enter Try.func70, Try.ntmps70
    go_wp2_with fail
    go_ret
    exact ⟨rfl, H0.out.below⟩
  · have t1 : (x == -1) = false := by simpa using e1
    by_cases g : 0 ≤ x ∧ x < 4 * (S.length : Int)
    · obtain ⟨h, rfl⟩ : ∃ h : Nat, x = (h : Int) := ⟨x.toNat, by omega⟩
      have hh : h < 4 * S.length := by omega
      have HC := Lib.hid (coutgoing_any S M L aS aM cS cM h (w.alloc (.cells #[.slice aS S.length cS, .slice aM M.length cM, .int .i64 L] 24)) hh hb (hS.later H0.out.below))
      rw [placeB_at hh]
      have d2 : (h : Int) < (M.length : Int) := by omega
      have d3 : decide ((h : Int) < (M.length : Int)) = true := decide_eq_true d2
      have d1 : decide ((h : Int) ≥ 0) = true := decide_eq_true (by omega)
      generalize outB S h = R at *
      clear hS g hh hl e1
      generalize M.length = m at *
      generalize S.length = n at *
      go_enter Try.func70, Try.ntmps70
      go_wp2_with fail
      refine HC.out.mono ?_
      rintro e w1 ⟨rfl, hb⟩
      have H1 := Lib.hid (H0.out.call hb)
      clear hb
      go_wp2_with fail
      go_ret
      exact ⟨rfl, H1.out.below⟩
    · rw [placeB_out e1 g]
      by_cases h0 : 0 ≤ x
      · have d3 : decide (x < (M.length : Int)) = false := decide_eq_false (by omega)
        clear hS g hl e1
        generalize M.length = m at *
        go_enter Try.func70, Try.ntmps70
        go_wp2_with fail
        go_ret
        exact ⟨rfl, H0.out.below⟩
      · have d3 : decide (0 ≤ x) = false := decide_eq_false h0
        clear hS g hl e1
        go_enter Try.func70, Try.ntmps70
        go_wp2_with fail
        go_ret
        exact ⟨rfl, H0.out.below⟩
set_option maxRecDepth 100000 in
set_option maxHeartbeats 1000000 in
theorem cross_any (M : List Int) (A : Option Addr) (c B x y : Nat) (w : World) (hx : x < M.length) (hy : y < M.length) (hM : M.length ≤ 1000000) (hp0 : 0 ≤ nth M x ∧ nth M x < M.length) (hq0 : 0 ≤ nth M y ∧ nth M y < M.length) (ho : Own w B 3 A c (ints M)) :
    Calls Try.prog 60 #[.slice A M.length c, .int .i64 (x : Int), .int .i64 (y : Int)] w fun e w' => e = .returned (.tuple #[]) ∧ Own w' B 3 A c (ints (crossL M x y)) ∧ Turned w w' A := by
  obtain ⟨p, hp⟩ : ∃ p : Nat, nth M x = (p : Int) := ⟨(nth M x).toNat, by omega⟩
  obtain ⟨q, hq⟩ : ∃ q : Nat, nth M y = (q : Int) := ⟨(nth M y).toNat, by omega⟩
  have hpl : p < M.length := by omega
  have hql : q < M.length := by omega
  obtain ⟨b, o, rfl, hB, hbl, hc, hf⟩ := ho.open (by rw [ints_length]; omega)
  have c1 := hc x _ (ints_get M x hx)
  have c2 := hc y _ (ints_get M y hy)
  rw [hp] at c1
  rw [hq] at c2
  have HO := Lib.hid ho
  have HE : Hid ((((M.set x (q : Int)).set q (x : Int)).set y (p : Int)).set p (y : Int) = crossL M x y) := Lib.hid (by
    unfold crossL
    rw [show mt M y = q by unfold mt; rw [hq]; exact Int.toNat_natCast q, show mt M x = p by unfold mt; rw [hp]; exact Int.toNat_natCast p, hp, hq])
  have HX := Lib.hid (show x < M.length ∧ y < M.length ∧ p < M.length ∧ q < M.length from ⟨hx, hy, hpl, hql⟩)
  have HL : Hid (∀ v : World, Own v B 3 (some ⟨b, o, none⟩) c (ints M) → v.frozen? ⟨b, o + x, none⟩ = false ∧ (v.setCell ⟨b, o + x, none⟩ (.int .i64 (q : Int))).frozen? ⟨b, o + q, none⟩ = false ∧
      ((v.setCell ⟨b, o + x, none⟩ (.int .i64 (q : Int))).setCell ⟨b, o + q, none⟩ (.int .i64 (x : Int))).frozen? ⟨b, o + y, none⟩ = false ∧
      (((v.setCell ⟨b, o + x, none⟩ (.int .i64 (q : Int))).setCell ⟨b, o + q, none⟩ (.int .i64 (x : Int))).setCell ⟨b, o + y, none⟩ (.int .i64 (p : Int))).frozen? ⟨b, o + p, none⟩ = false ∧
      Own ((((v.setCell ⟨b, o + x, none⟩ (.int .i64 (q : Int))).setCell ⟨b, o + q, none⟩ (.int .i64 (x : Int))).setCell ⟨b, o + y, none⟩ (.int .i64 (p : Int))).setCell ⟨b, o + p, none⟩ (.int .i64 (y : Int))) B 3 (some ⟨b, o, none⟩) c (ints (crossL M x y)) ∧ (∃ u, v.cell? ⟨b, o + x, none⟩ = some u) ∧ (∃ u, (v.setCell ⟨b, o + x, none⟩ (.int .i64 (q : Int))).cell? ⟨b, o + q, none⟩ = some u) ∧ (∃ u, ((v.setCell ⟨b, o + x, none⟩ (.int .i64 (q : Int))).setCell ⟨b, o + q, none⟩ (.int .i64 (x : Int))).cell? ⟨b, o + y, none⟩ = some u) ∧ (∃ u, (((v.setCell ⟨b, o + x, none⟩ (.int .i64 (q : Int))).setCell ⟨b, o + q, none⟩ (.int .i64 (x : Int))).setCell ⟨b, o + y, none⟩ (.int .i64 (p : Int))).cell? ⟨b, o + p, none⟩ = some u)) := Lib.hid fun v hv => by
    have cl : ∀ (W : World) (N : List Int) (i : Nat), i < N.length → Own W B 3 (some ⟨b, o, none⟩) c (ints N) → ∃ u, W.cell? ⟨b, o + i, none⟩ = some u := fun W N i h0 h => by
      obtain ⟨b', o', he, _, _, hh, _⟩ := h.open (by rw [ints_length]; omega)
      cases he; exact ⟨_, hh i _ (ints_get N i h0)⟩
    have fr : ∀ (W : World) (N : List Int), 0 < N.length → Own W B 3 (some ⟨b, o, none⟩) c (ints N) → ∀ i, W.frozen? ⟨b, i, none⟩ = false := fun W N h0 h i => by
      obtain ⟨b', o', he, _, _, _, hh⟩ := h.open (by rw [ints_length]; exact h0)
      cases he; exact hh i
    have o1 := hv.set x (by rw [ints_length]; exact hx) (.int .i64 (q : Int))
    rw [ints_set] at o1
    have o2 := o1.set q (by rw [ints_length, List.length_set]; exact hql) (.int .i64 (x : Int))
    rw [ints_set] at o2
    have o3 := o2.set y (by rw [ints_length, List.length_set, List.length_set]; exact hy) (.int .i64 (p : Int))
    rw [ints_set] at o3
    have o4 := o3.set p (by rw [ints_length, List.length_set, List.length_set, List.length_set]; exact hpl) (.int .i64 (y : Int))
    rw [ints_set, HE.out] at o4
    exact ⟨fr _ _ (by omega) hv _, fr _ _ (by rw [List.length_set]; omega) o1 _, fr _ _ (by rw [List.length_set, List.length_set]; omega) o2 _, fr _ _ (by rw [List.length_set, List.length_set, List.length_set]; omega) o3 _, o4, cl _ _ _ hx hv, cl _ _ _ (by rw [List.length_set]; exact hql) o1, cl _ _ _ (by rw [List.length_set, List.length_set]; exact hy) o2, cl _ _ _ (by rw [List.length_set, List.length_set, List.length_set]; exact hpl) o3⟩
  clear ho hc hf hp hq hp0 hq0 HE HX
  generalize M.length = m at *
  generalize crossL M x y = R at *
  go_enter Try.func60, Try.ntmps60
  go_wp2_with fail
  go_region
  all_goals
    have hv := HO.out.kept (w' := w.drew) (fun _ _ => rfl)
    have ht : Turned w w.drew (some ⟨b, o, none⟩) := ⟨rfl, rfl, rfl, Nat.le_refl _, fun _ _ _ => rfl⟩
    obtain ⟨v, hv0⟩ : ∃ v, v = w.drew := ⟨_, rfl⟩
    rw [← hv0]
    rw [← hv0] at hv ht
    clear hv0 HO c1 c2
    obtain ⟨f1, f2, f3, f4, o4, k1, k2, k3, k4⟩ := HL.out _ hv
    have HO4 := Lib.hid o4
    have HT : Hid (Turned w ((((v.setCell ⟨b, o + x, none⟩ (.int .i64 (q : Int))).setCell ⟨b, o + q, none⟩ (.int .i64 (x : Int))).setCell ⟨b, o + y, none⟩ (.int .i64 (p : Int))).setCell ⟨b, o + p, none⟩ (.int .i64 (y : Int))) (some ⟨b, o, none⟩)) := Lib.hid ⟨ht.os, ht.tape, ht.output, by simpa using ht.size, fun k hk hne => by
      have hb : b ≠ k := hne _ rfl
      rw [Below.heap_setCell _ _ _ k (fun e => hb e.symm), Below.heap_setCell _ _ _ k (fun e => hb e.symm), Below.heap_setCell _ _ _ k (fun e => hb e.symm), Below.heap_setCell _ _ _ k (fun e => hb e.symm)]
      exact ht.block k hk hne⟩
    obtain ⟨u1, k1⟩ := k1
    obtain ⟨u2, k2⟩ := k2
    obtain ⟨u3, k3⟩ := k3
    obtain ⟨u4, k4⟩ := k4
    clear o4 hv ht HL
    go_wp2_with fail
    refine bodyPost_end (results_none rfl _ _ _) rfl ?_
    exact ⟨rfl, HO4.out, HT.out⟩
end Go.Proofs.Ytmjoijfafachhaa
