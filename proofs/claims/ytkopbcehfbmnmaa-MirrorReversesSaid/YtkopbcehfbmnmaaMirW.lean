/- The walks of mirror.exchange, Mirror, Reflect, Reverse, Switch. -/
import Derived.Test.YtkopbcehfbmnmaaMoveW
import Derived.Test.YtkopbcehfbmnmaaMirA
namespace Go.Proofs.Ytkopbcehfbmnmaa
open Go Go.RowKit
/-- A function value that tells of a crossing whether it is chosen. -/
def ChFn (w : World) (F : FuncId) (cap : Array Value) (n : Nat) (ch : Nat → Bool) : Prop :=
  ∀ (W : World) (c : Nat), Below w.heap.size w W → c < n → Calls Try.prog F (#[.int .i64 (c : Int)] ++ cap) W fun e w' => e = .returned (.bool (ch c)) ∧ W = w'
/-- A diagram in new memory, and an error number. -/
def DgR (w : World) (S' M' : List Int) (L' err : Int) (e : Ending) (w' : World) : Prop :=
  ∃ (a b : Option Addr) (c d : Nat), e = .returned (.tuple #[.agg #[.slice a S'.length c, .slice b M'.length d, .int .i64 L'], .int .i64 err]) ∧ IntsAt w' a S' ∧ IntsAt w' b M' ∧ Below w.heap.size w w'
set_option maxRecDepth 100000 in
set_option maxHeartbeats 2000000 in
theorem exch1_any (W : World) (bC bD : Nat) (C : FuncId) (capC : Array Value) (S : List Int) (aS : Option Addr) (cS : Nat) (v1 v2 : Value) (c x : Nat) (chc : Bool) (hcC : ∀ args W, (callFunc C args).run Try.prog W = .ok (.enter C args) W)
    (hC : Row W bC 84 [.func (.func C) #[] capC]) (hD : Row W bD 24 [.slice aS S.length cS, v1, v2]) (hc : c < S.length) (hl : S.length ≤ 64) (hS : IntsAt W aS S) (hch : Calls Try.prog C (#[.int .i64 (c : Int)] ++ capC) W fun e w' => e = .returned (.bool chc) ∧ W = w') (g : Int) (hg : (if chc = true then (if nth S c = 1 then -3 else -1) else 0) = g) :
    Calls Try.prog 158 #[.int .i64 (c : Int), .int .i64 (x : Int), .pointer (some ⟨bC, 0, none⟩), .pointer (some ⟨bD, 0, none⟩)] W fun e w' => e = .returned (.int .i64 g) ∧ W = w' := by
  have hc0 := hC.cell 0
  have hd0 := hD.cell 0
  simp only [List.getElem?_cons_zero] at hc0 hd0
  obtain ⟨b, off, rfl, _, hcS⟩ := hS.open (by omega)
  have hcc := hcS c hc
  have Hch := Lib.hid hch
  clear hC hD hcS hS hch
  cases chc
  · obtain rfl : (0 : Int) = g := by rw [← hg]; rfl
    clear hg
    go_enter Try.func158, Try.ntmps158
    go_wp2_with fail
    refine Hch.out.mono ?_
    rintro e w' ⟨rfl, rfl⟩
    go_wp2_with fail
    go_ret
    exact ⟨rfl, rfl⟩
  · by_cases h1 : nth S c = 1
    · rw [h1] at hcc
      obtain rfl : (-3 : Int) = g := by rw [← hg, if_pos rfl, if_pos h1]
      clear h1 hg
      go_enter Try.func158, Try.ntmps158
      go_wp2_with fail
      refine Hch.out.mono ?_
      rintro e w' ⟨rfl, rfl⟩
      go_wp2_with fail
      go_ret
      exact ⟨rfl, rfl⟩
    · have t1 : (nth S c == 1) = false := by simpa using h1
      obtain rfl : (-1 : Int) = g := by rw [← hg, if_pos rfl, if_neg h1]
      clear hg
      generalize nth S c = s at *
      clear h1
      go_enter Try.func158, Try.ntmps158
      go_wp2_with fail
      refine Hch.out.mono ?_
      rintro e w' ⟨rfl, rfl⟩
      go_wp2_with fail
      go_ret
      exact ⟨rfl, rfl⟩
set_option maxRecDepth 100000 in
set_option maxHeartbeats 2000000 in
theorem exch2_any (W : World) (bC : Nat) (C : FuncId) (capC : Array Value) (c : Nat) (chc : Bool) (hcC : ∀ args W, (callFunc C args).run Try.prog W = .ok (.enter C args) W)
    (hC : Row W bC 84 [.func (.func C) #[] capC]) (hch : Calls Try.prog C (#[.int .i64 (c : Int)] ++ capC) W fun e w' => e = .returned (.bool chc) ∧ W = w') (g : Int) (hg : (if chc = true then -1 else 1) = g) :
    Calls Try.prog 159 #[.int .i64 (c : Int), .pointer (some ⟨bC, 0, none⟩)] W fun e w' => e = .returned (.int .i64 g) ∧ W = w' := by
  have hc0 := hC.cell 0
  simp only [List.getElem?_cons_zero] at hc0
  have Hch := Lib.hid hch
  clear hC hch
  cases chc
  · obtain rfl : (1 : Int) = g := by rw [← hg]; rfl
    clear hg
    go_enter Try.func159, Try.ntmps159
    go_wp2_with fail
    refine Hch.out.mono ?_
    rintro e w' ⟨rfl, rfl⟩
    go_wp2_with fail
    go_ret
    exact ⟨rfl, rfl⟩
  · obtain rfl : (-1 : Int) = g := by rw [← hg]; rfl
    clear hg
    go_enter Try.func159, Try.ntmps159
    go_wp2_with fail
    refine Hch.out.mono ?_
    rintro e w' ⟨rfl, rfl⟩
    go_wp2_with fail
    go_ret
    exact ⟨rfl, rfl⟩
theorem Shape.mtOk {S M : List Int} {L : Int} (hs : Shape S M L) : ∀ x, x < 4 * S.length → nth M x = ((mt M x : Nat) : Int) ∧ mt M x < 4 * S.length := fun x hx => ⟨(hs.cast x hx).symm, hs.mt_lt hx⟩
/-- A boxed result of three cells, stored. -/
theorem res_set {w : World} {b : Nat} {x0 x1 x2 : Value} (h : Row w b 24 [x0, x1, x2]) (u0 u1 u2 : Value) : Row (((w.setCell ⟨b, 0, none⟩ u0).setCell ⟨b, 1, none⟩ u1).setCell ⟨b, 2, none⟩ u2) b 24 [u0, u1, u2] := ((h.set 0 u0).set 1 u1).set 2 u2
set_option maxRecDepth 100000 in
set_option maxHeartbeats 4000000 in
theorem exchange_any (S M : List Int) (L : Int) (aS aM : Option Addr) (cS cM : Nat) (w : World) (C : FuncId) (capC : Array Value) (ch : Nat → Bool) (hcC : ∀ args W, (callFunc C args).run Try.prog W = .ok (.enter C args) W)
    (hv : vldB S M L = true) (hC : ChFn w C capC S.length ch) (hS : IntsAt w aS S) (hM : IntsAt w aM M) :
    Calls Try.prog 110 #[.agg #[.slice aS S.length cS, .slice aM M.length cM, .int .i64 L], .func (.func C) #[] capC] w fun e w' =>
      ∃ bS bM, e = .returned (.agg #[.slice (some ⟨bS, 0, none⟩) S.length S.length, .slice (some ⟨bM, 0, none⟩) M.length M.length, .int .i64 L]) ∧ Row w' bS 3 (ints (mulS S (swS ch))) ∧ Row w' bM 3 (ints (mvL (trn (swB S ch)) M)) ∧ Below w.heap.size w w' := by
  have hs := vldB_shape hv
  obtain ⟨W, hW⟩ : ∃ W, W = ((w.alloc (.cells #[.slice aS S.length cS, .slice aM M.length cM, .int .i64 L] 24)).alloc (.cells #[.func (.func C) #[] capC] 84)).alloc (.cells #[.slice none 0 0, .slice none 0 0, .int .i64 0] 24) := ⟨_, rfl⟩
  obtain ⟨r0, r1, r2⟩ := alloc3_rows w #[.slice aS S.length cS, .slice aM M.length cM, .int .i64 L] #[.func (.func C) #[] capC] #[.slice none 0 0, .slice none 0 0, .int .i64 0] 24 84 24
  rw [← hW] at r0 r1 r2
  have hz : W.heap.size = w.heap.size + 3 := by rw [hW]; simp
  have hB : Below w.heap.size w W := by rw [hW]; exact (((Below.refl _ _).alloc (Nat.le_refl _) _).alloc (by simp) _).alloc (by simp; omega) _
  have H113 := Lib.hid (move_any S M L aS aM cS cM S.length W 158 159 #[.pointer (some ⟨w.heap.size + 1, 0, none⟩), .pointer (some ⟨w.heap.size, 0, none⟩)] #[.pointer (some ⟨w.heap.size + 1, 0, none⟩)] (fun c _ => swB S ch c) (swS ch) Try.call158 Try.call159 rfl hs.few hs.len hs.mtOk
    (fun c hc => by have := ex_sign hs ch c hc; rw [nth_mulS S _ c hc] at this; omega) hs.signBd (fun c _ => swS_bd ch c) (fun c x _ _ => by have := swB_bd S ch c; omega)
    (fun W' c x hW' hc hx => exch1_any W' (w.heap.size + 1) w.heap.size C capC S aS cS _ _ c x (ch c) hcC (r1.later hW' (by omega)) (r0.later hW' (by omega)) hc hs.few (hS.later (below_of hB hW' (by omega))) (hC W' c (below_of hB hW' (by omega)) hc) _ rfl)
    (fun W' c hW' hc => exch2_any W' (w.heap.size + 1) C capC c (ch c) hcC (r1.later hW' (by omega)) (hC W' c (below_of hB hW' (by omega)) hc) _ rfl)
    (hS.later hB) (hM.later hB))
  have Hr2 := Lib.hid r2
  have HB := Lib.hid hB
  have Hz := Lib.hid hz
  clear hs hv hC hS hM r0 r1 r2 hB hz
  go_enter Try.func110, Try.ntmps110
  go_wp2_with fail
  rw [← hW]
  refine H113.out.mono ?_
  rintro e w1 ⟨bS, bM, rfl, hS1, hM1, hb1⟩
  have hR := Hr2.out.later hb1 (by have := Hz.out; omega)
  have Hfin : Hid (Row (((w1.setCell ⟨w.heap.size + 1 + 1, 0, none⟩ (.slice (some ⟨bS, 0, none⟩) S.length S.length)).setCell ⟨w.heap.size + 1 + 1, 1, none⟩ (.slice (some ⟨bM, 0, none⟩) M.length M.length)).setCell ⟨w.heap.size + 1 + 1, 2, none⟩ (.int .i64 L)) bS 3 (ints (mulS S (swS ch))) ∧ Row (((w1.setCell ⟨w.heap.size + 1 + 1, 0, none⟩ (.slice (some ⟨bS, 0, none⟩) S.length S.length)).setCell ⟨w.heap.size + 1 + 1, 1, none⟩ (.slice (some ⟨bM, 0, none⟩) M.length M.length)).setCell ⟨w.heap.size + 1 + 1, 2, none⟩ (.int .i64 L)) bM 3 (ints (mvL (trn (swB S ch)) M)) ∧ Below w.heap.size w (((w1.setCell ⟨w.heap.size + 1 + 1, 0, none⟩ (.slice (some ⟨bS, 0, none⟩) S.length S.length)).setCell ⟨w.heap.size + 1 + 1, 1, none⟩ (.slice (some ⟨bM, 0, none⟩) M.length M.length)).setCell ⟨w.heap.size + 1 + 1, 2, none⟩ (.int .i64 L))) := Lib.hid (by
    have n1 : bS ≠ w.heap.size + 1 + 1 := fun e => by
      have h := hS1
      rw [e] at h
      unfold Row at h hR
      rw [hR] at h
      simp at h
    have n2 : bM ≠ w.heap.size + 1 + 1 := fun e => by
      have h := hM1
      rw [e] at h
      unfold Row at h hR
      rw [hR] at h
      simp at h
    have hb2 := below_of HB.out hb1 HB.out.size
    exact ⟨((hS1.setOther _ _ n1).setOther _ _ n1).setOther _ _ n1, ((hM1.setOther _ _ n2).setOther _ _ n2).setOther _ _ n2, ((hb2.setCell (by simp; omega) _).setCell (by simp; omega) _).setCell (by simp; omega) _⟩)
  have hRf := res_set hR (.slice (some ⟨bS, 0, none⟩) S.length S.length) (.slice (some ⟨bM, 0, none⟩) M.length M.length) (.int .i64 L)
  have hF0 := hRf.cell 0
  have hF1 := hRf.cell 1
  have hF2 := hRf.cell 2
  have hc0 := hR.cell 0
  have hc1 := hR.cell 1
  have hc2 := hR.cell 2
  have hf0 := hR.frozen 0
  have hf1 := hR.frozen 1
  have hf2 := hR.frozen 2
  simp only [List.getElem?_cons_succ, List.getElem?_cons_zero] at hF0 hF1 hF2 hc0 hc1 hc2
  clear hS1 hM1 hb1 hRf hR hW H113
  go_wp2_with fail
  refine bodyPost_ret (v := .agg #[.slice (some ⟨bS, 0, none⟩) S.length S.length, .slice (some ⟨bM, 0, none⟩) M.length M.length, .int .i64 L]) (by simp [results, Try.results110, go_sem, hF0, hF1, hF2]) rfl ?_
  exact ⟨bS, bM, rfl, Hfin.out⟩
end Go.Proofs.Ytkopbcehfbmnmaa
