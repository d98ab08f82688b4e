/- The walk of mirror.move. -/
import Derived.Test.YtkopbcehfbmnmaaStrandA
import Derived.Deep.DeepCutAuto
namespace Go.Proofs.Ytkopbcehfbmnmaa
open Go Go.RowKit
/-- A function value that takes a crossing to a number and leaves the world alone. -/
def IntFn1 (w : World) (F : FuncId) (cap : Array Value) (n : Nat) (g : Nat → Int) : Prop :=
  ∀ (W : World) (c : Nat), Below w.heap.size w W → c < n → Calls Try.prog F (#[.int .i64 (c : Int)] ++ cap) W fun e w' => e = .returned (.int .i64 (g c)) ∧ W = w'
/-- .. a crossing and a slot. -/
def IntFn2 (w : World) (F : FuncId) (cap : Array Value) (n : Nat) (g : Nat → Nat → Int) : Prop :=
  ∀ (W : World) (c x : Nat), Below w.heap.size w W → c < n → x < 4 → Calls Try.prog F (#[.int .i64 (c : Int), .int .i64 (x : Int)] ++ cap) W fun e w' => e = .returned (.int .i64 (g c x)) ∧ W = w'
theorem run_mk (n : Nat) (hn : n ≤ 1000000) (W : World) : (Instr.makeSlice 22 (.int .i64 (n : Int)) (.int .i64 (n : Int))).run Try.prog W = .ok (.slice (some ⟨W.heap.size, 0, none⟩) n n) (W.alloc (.cells (Array.replicate n (.int .i64 0)) 3)) := by
  obtain ⟨i0, hi0, hz0, hz1, hz2⟩ := info_parts Try.info3
  have hr := run_make (P := Try.prog) W 22 3 i0 (.int .i64 0) Try.underlying22 hi0 hz0 .i64 .i64 n n (by omega) (Int.le_refl _) (by rw [hz2]; omega) (by omega)
  simp only [Int.toNat_natCast, hz1, Nat.mul_one] at hr
  have hm : madeCells (Value.int .i64 0).cells n = Array.replicate n (.int .i64 0) := by
    apply Array.ext'
    show (madeCells #[Value.int .i64 0] n).toList = _
    rw [toList_madeCells_one, Array.toList_replicate]
  rw [hm] at hr
  exact hr
theorem zeros_ints (n : Nat) : (Array.replicate n (Value.int .i64 0)).toList = ints (List.replicate n 0) := by simp [ints]
/-- Three new rows. -/
theorem alloc3_rows (W : World) (c0 c1 c2 : Array Value) (E0 E1 E2 : TypeId) : Row (((W.alloc (.cells c0 E0)).alloc (.cells c1 E1)).alloc (.cells c2 E2)) W.heap.size E0 c0.toList ∧ Row (((W.alloc (.cells c0 E0)).alloc (.cells c1 E1)).alloc (.cells c2 E2)) (W.heap.size + 1) E1 c1.toList ∧ Row (((W.alloc (.cells c0 E0)).alloc (.cells c1 E1)).alloc (.cells c2 E2)) (W.heap.size + 1 + 1) E2 c2.toList := by
  refine ⟨((Row.new W c0 E0).alloc _).alloc _, ?_, ?_⟩
  · have := (Row.new (W.alloc (.cells c0 E0)) c1 E1).alloc (.cells c2 E2)
    simpa using this
  · have := Row.new ((W.alloc (.cells c0 E0)).alloc (.cells c1 E1)) c2 E2
    simpa using this
/-- What move has made when the loops begin. -/
structure MvA (w wx : World) (box : List Value) (fb : Value) (L : Int) (nS nM : Nat) (bD bS bM : Nat) (xs ys : List Int) : Prop where
  D : Row wx bD 24 [.slice (some ⟨bS, 0, none⟩) nS nS, .slice (some ⟨bM, 0, none⟩) nM nM, .int .i64 L]
  S : Row wx bS 3 (ints xs)
  M : Row wx bM 3 (ints ys)
  box : Row wx w.heap.size 24 box
  fn : Row wx (w.heap.size + 1) 54 [fb]
  res : Row wx (w.heap.size + 1 + 1) 24 [.slice none 0 0, .slice none 0 0, .int .i64 0]
  below : Below w.heap.size w wx
  lo : w.heap.size + 3 ≤ bD ∧ w.heap.size + 3 ≤ bS ∧ w.heap.size + 3 ≤ bM
  ne : bD ≠ bS ∧ bD ≠ bM ∧ bS ≠ bM
theorem mva_begin (w : World) (b0 : Array Value) (fb : Value) (r0 : Array Value) (hr : r0 = #[.slice none 0 0, .slice none 0 0, .int .i64 0]) (o0 o1 o2 : Array Value) (E0 E1 E2 : TypeId) (L : Int) (nS nM bD bS bM : Nat)
    (hD : ((w.heap.size + 3 = bD ∧ o0.toList = [.slice (some ⟨bS, 0, none⟩) nS nS, .slice (some ⟨bM, 0, none⟩) nM nM, .int .i64 L] ∧ E0 = 24) ∨ (w.heap.size + 4 = bD ∧ o1.toList = [.slice (some ⟨bS, 0, none⟩) nS nS, .slice (some ⟨bM, 0, none⟩) nM nM, .int .i64 L] ∧ E1 = 24) ∨ (w.heap.size + 5 = bD ∧ o2.toList = [.slice (some ⟨bS, 0, none⟩) nS nS, .slice (some ⟨bM, 0, none⟩) nM nM, .int .i64 L] ∧ E2 = 24)))
    (hS : ((w.heap.size + 3 = bS ∧ o0 = Array.replicate nS (.int .i64 0) ∧ E0 = 3) ∨ (w.heap.size + 4 = bS ∧ o1 = Array.replicate nS (.int .i64 0) ∧ E1 = 3) ∨ (w.heap.size + 5 = bS ∧ o2 = Array.replicate nS (.int .i64 0) ∧ E2 = 3)))
    (hM : ((w.heap.size + 3 = bM ∧ o0 = Array.replicate nM (.int .i64 0) ∧ E0 = 3) ∨ (w.heap.size + 4 = bM ∧ o1 = Array.replicate nM (.int .i64 0) ∧ E1 = 3) ∨ (w.heap.size + 5 = bM ∧ o2 = Array.replicate nM (.int .i64 0) ∧ E2 = 3)))
    (hne : bD ≠ bS ∧ bD ≠ bM ∧ bS ≠ bM) :
    MvA w ((((((w.alloc (.cells b0 24)).alloc (.cells #[fb] 54)).alloc (.cells r0 24)).alloc (.cells o0 E0)).alloc (.cells o1 E1)).alloc (.cells o2 E2)).drew b0.toList fb L nS nM bD bS bM (List.replicate nS 0) (List.replicate nM 0) := by
  obtain ⟨a0, a1, a2⟩ := alloc3_rows w b0 #[fb] r0 24 54 24
  obtain ⟨c0, c1, c2⟩ := alloc3_rows (((w.alloc (.cells b0 24)).alloc (.cells #[fb] 54)).alloc (.cells r0 24)) o0 o1 o2 E0 E1 E2
  have hz : (((w.alloc (.cells b0 24)).alloc (.cells #[fb] 54)).alloc (.cells r0 24)).heap.size = w.heap.size + 3 := by simp
  rw [hz] at c0 c1 c2
  have up : ∀ {b : Nat} {E : TypeId} {vs : List Value}, Row (((w.alloc (.cells b0 24)).alloc (.cells #[fb] 54)).alloc (.cells r0 24)) b E vs → Row ((((((w.alloc (.cells b0 24)).alloc (.cells #[fb] 54)).alloc (.cells r0 24)).alloc (.cells o0 E0)).alloc (.cells o1 E1)).alloc (.cells o2 E2)).drew b E vs := fun h => ((h.alloc _).alloc _).alloc _
  refine ⟨?_, ?_, ?_, up a0, up a1, ?_, ?_, ?_, hne⟩
  · rcases hD with ⟨h1, h2, h3⟩ | ⟨h1, h2, h3⟩ | ⟨h1, h2, h3⟩
    · subst h1; subst h3; rw [← h2]; exact c0
    · subst h1; subst h3; rw [← h2]; exact c1
    · subst h1; subst h3; rw [← h2]; exact c2
  · rw [← zeros_ints]
    rcases hS with ⟨h1, h2, h3⟩ | ⟨h1, h2, h3⟩ | ⟨h1, h2, h3⟩
    · subst h1; subst h3; rw [← h2]; exact c0
    · subst h1; subst h3; rw [← h2]; exact c1
    · subst h1; subst h3; rw [← h2]; exact c2
  · rw [← zeros_ints]
    rcases hM with ⟨h1, h2, h3⟩ | ⟨h1, h2, h3⟩ | ⟨h1, h2, h3⟩
    · subst h1; subst h3; rw [← h2]; exact c0
    · subst h1; subst h3; rw [← h2]; exact c1
    · subst h1; subst h3; rw [← h2]; exact c2
  · have := up a2
    rw [hr] at this
    rw [hr]
    exact this
  · exact (((((((Below.refl _ _).alloc (Nat.le_refl _) _).alloc (by simp) _).alloc (by simp; omega) _).alloc (by simp; omega) _).alloc (by simp; omega) _).alloc (by simp; omega) _).drew
  · rcases hD with ⟨h1, _⟩ | ⟨h1, _⟩ | ⟨h1, _⟩ <;> rcases hS with ⟨h2, _⟩ | ⟨h2, _⟩ | ⟨h2, _⟩ <;> rcases hM with ⟨h3, _⟩ | ⟨h3, _⟩ | ⟨h3, _⟩ <;> omega
/-- The signs, multiplied: the first c. -/
def msTo (S : List Int) (g : Nat → Int) : Nat → List Int
  | 0 => List.replicate S.length 0
  | c + 1 => (msTo S g c).set c (nth S c * g c)
theorem msTo_len (S : List Int) (g : Nat → Int) (c : Nat) : (msTo S g c).length = S.length := by
  induction c with
  | zero => simp [msTo]
  | succ c ih => simp [msTo, ih]
theorem nth_msTo (S : List Int) (g : Nat → Int) (c : Nat) (hc : c ≤ S.length) (i : Nat) (hi : i < c) : nth (msTo S g c) i = nth S i * g i := by
  induction c with
  | zero => omega
  | succ c ih =>
    rw [msTo, nth_set _ _ _ _ (by rw [msTo_len]; omega)]
    by_cases e : c = i
    · rw [if_pos e, e]
    · rw [if_neg e]; exact ih (by omega) (by omega)
theorem msTo_all (S : List Int) (g : Nat → Int) : msTo S g S.length = mulS S g := by
  refine ext_nth (by rw [msTo_len, mulS_len]) fun i hi => ?_
  rw [msTo_len] at hi
  rw [nth_msTo S g _ (Nat.le_refl _) i hi, nth_mulS S g i hi]
set_option maxRecDepth 100000 in
set_option maxHeartbeats 2000000 in
theorem movc_any (W : World) (b : Nat) (G : FuncId) (capG : Array Value) (h : Nat) (gb : Nat → Nat → Int) (hcG : ∀ args W, (callFunc G args).run Try.prog W = .ok (.enter G args) W)
    (hb : Row W b 54 [.func (.func G) #[] capG]) (hh : h ≤ 1000000) (hr : -8 ≤ gb (h / 4) (h % 4) ∧ gb (h / 4) (h % 4) ≤ 8)
    (hG : Calls Try.prog G (#[.int .i64 ((h / 4 : Nat) : Int), .int .i64 ((h % 4 : Nat) : Int)] ++ capG) W fun e w' => e = .returned (.int .i64 (gb (h / 4) (h % 4))) ∧ W = w') :
    Calls Try.prog 160 #[.int .i64 (h : Int), .pointer (some ⟨b, 0, none⟩)] W fun e w' => e = .returned (.int .i64 ((tn h (gb (h / 4) (h % 4)) : Nat) : Int)) ∧ W = w' := by
  have hc0 := hb.cell 0
  simp only [List.getElem?_cons_zero] at hc0
  rw [show ((h / 4 : Nat) : Int) = (h : Int) / 4 from by omega, show ((h % 4 : Nat) : Int) = (h : Int) % 4 from by omega] at hG
  have HG := Lib.hid hG
  have hr1 := hr.1
  have hr2 := hr.2
  generalize gb (h / 4) (h % 4) = g at *
  clear hb hG hr
  go_enter Try.func160, Try.ntmps160
  go_wp2_with fail
  refine HG.out.mono ?_
  rintro e w' ⟨rfl, rfl⟩
  go_wp2_with fail
  refine (turn_any h g W (by omega) hr1 hr2).mono ?_
  rintro e w' ⟨rfl, rfl⟩
  go_wp2_with fail
  go_ret
  exact ⟨rfl, rfl⟩
set_option maxRecDepth 100000 in
set_option maxHeartbeats 8000000 in
theorem move_any (S M : List Int) (L : Int) (aS aM : Option Addr) (cS cM n : Nat) (w : World) (G K : FuncId) (capG capK : Array Value) (gb : Nat → Nat → Int) (gs : Nat → Int)
    (hcG : ∀ args W, (callFunc G args).run Try.prog W = .ok (.enter G args) W) (hcK : ∀ args W, (callFunc K args).run Try.prog W = .ok (.enter K args) W)
    (hn : S.length = n) (hn2 : n ≤ 64) (hM4 : M.length = 4 * n) (hmt : ∀ x, x < 4 * n → nth M x = ((mt M x : Nat) : Int) ∧ mt M x < 4 * n) (hsg : ∀ c, c < n → -1 ≤ nth S c * gs c ∧ nth S c * gs c ≤ 1) (hb1 : ∀ c, -1 ≤ nth S c ∧ nth S c ≤ 1) (hg1 : ∀ c, c < n → -1 ≤ gs c ∧ gs c ≤ 1) (hgb : ∀ c x, c < n → x < 4 → -8 ≤ gb c x ∧ gb c x ≤ 8) (hG : IntFn2 w G capG n gb) (hK : IntFn1 w K capK n gs) (hS : IntsAt w aS S) (hM : IntsAt w aM M) :
    Calls Try.prog 113 #[.agg #[.slice aS S.length cS, .slice aM M.length cM, .int .i64 L], .func (.func G) #[] capG, .func (.func K) #[] capK] w fun e w' =>
      ∃ bS bM, e = .returned (.agg #[.slice (some ⟨bS, 0, none⟩) S.length S.length, .slice (some ⟨bM, 0, none⟩) M.length M.length, .int .i64 L]) ∧ Row w' bS 3 (ints (mulS S gs)) ∧ Row w' bM 3 (ints (mvL (fun h => tn h (gb (h / 4) (h % 4))) M)) ∧ Below w.heap.size w w' := by
  have hl1 : S.length ≤ 64 := by omega
  have hl2 : M.length ≤ 256 := by omega
  have hl3 : M.length ≤ 4 * n := by omega
  have hl4 : 4 * n ≤ M.length := by omega
  have hl5 : S.length ≤ n := by omega
  have hl6 : n ≤ S.length := by omega
  have hmk1 := run_mk S.length (by omega)
  have hmk2 := run_mk M.length (by omega)
  have HS := Lib.hid hS
  have HM := Lib.hid hM
  have HG := Lib.hid hG
  have HK := Lib.hid hK
  have Hmt := Lib.hid hmt
  have Hsg := Lib.hid hsg
  have Hg1 := Lib.hid hg1
  have Hb1 := Lib.hid hb1
  have Hgb := Lib.hid hgb
  have HcG := Lib.hid hcG
  clear hn hM4 hS hM hG hK hmt hsg hg1 hb1 hgb hcG
  go_enter Try.func113, Try.ntmps113
  go_upto_region 2 with fail
  go_cut [8] (fun s8 wx => ∃ bD bS bM, s8 = .pointer (some ⟨bD, 0, none⟩) ∧ MvA w wx [.slice aS S.length cS, .slice aM M.length cM, .int .i64 L] (.func (.func G) #[] capG) L S.length M.length bD bS bM (List.replicate S.length 0) (List.replicate M.length 0))
  case first =>
    go_region
    all_goals (go_wp2_with fail; go_meet)
    all_goals first
      | (refine ⟨_, w.heap.size + 3, w.heap.size + 4, rfl, mva_begin w _ _ _ rfl _ _ _ _ _ _ L _ _ _ _ _ ?_ ?_ ?_ ?_⟩ <;> first | omega | (simp; done))
      | (refine ⟨_, w.heap.size + 3, w.heap.size + 5, rfl, mva_begin w _ _ _ rfl _ _ _ _ _ _ L _ _ _ _ _ ?_ ?_ ?_ ?_⟩ <;> first | omega | (simp; done))
      | (refine ⟨_, w.heap.size + 4, w.heap.size + 3, rfl, mva_begin w _ _ _ rfl _ _ _ _ _ _ L _ _ _ _ _ ?_ ?_ ?_ ?_⟩ <;> first | omega | (simp; done))
      | (refine ⟨_, w.heap.size + 4, w.heap.size + 5, rfl, mva_begin w _ _ _ rfl _ _ _ _ _ _ L _ _ _ _ _ ?_ ?_ ?_ ?_⟩ <;> first | omega | (simp; done))
      | (refine ⟨_, w.heap.size + 5, w.heap.size + 3, rfl, mva_begin w _ _ _ rfl _ _ _ _ _ _ L _ _ _ _ _ ?_ ?_ ?_ ?_⟩ <;> first | omega | (simp; done))
      | (refine ⟨_, w.heap.size + 5, w.heap.size + 4, rfl, mva_begin w _ _ _ rfl _ _ _ _ _ _ L _ _ _ _ _ ?_ ?_ ?_ ?_⟩ <;> first | omega | (simp; done))
  case rest =>
    obtain ⟨bD, bS, bM, rfl, hA⟩ := hcut
    have HA0 := Lib.hid hA
    have hcb0 := hA.box.cell 0
    simp only [List.getElem?_cons_zero] at hcb0
    clear hA hmk1 hmk2
    go_wp2_with fail
    go_loopg [28] S.length (fun g i wr => ∃ c : Nat, c ≤ S.length ∧ g = S.length - c ∧ i = .int .i64 c ∧ MvA w wr [.slice aS S.length cS, .slice aM M.length cM, .int .i64 L] (.func (.func G) #[] capG) L S.length M.length bD bS bM (msTo S gs c) (List.replicate M.length 0))
    case atStart => exact ⟨0, Nat.zero_le _, rfl, rfl, HA0.out⟩
    case round =>
      clear HA0 hcb0
      obtain ⟨c, hc, rfl, rfl, hA⟩ := hrel
      have HA := Lib.hid hA
      clear hA
      by_cases hcl : c < S.length
      · obtain ⟨b, off, hab, _, hcS⟩ := (HS.out.later HA.out.below).open (by omega)
        subst hab
        have hcc := hcS c hcl
        have hcD := HA.out.D.cell 0
        simp only [List.getElem?_cons_zero] at hcD
        have hcX := HA.out.S.int c (by rw [msTo_len]; exact hcl)
        have hfX := HA.out.S.frozen c
        have HKw := Lib.hid (HK.out wr.drew c HA.out.below.drew (by omega))
        have hb1 := Hb1.out c
        have hb2 := Hg1.out c (by omega)
        have hb3 := Hsg.out c (by omega)
        have Hst : Hid (MvA w ((wr.setCell ⟨bS, c, none⟩ (.int .i64 (nth S c * gs c))).drew) [.slice (some ⟨b, off, none⟩) S.length cS, .slice aM M.length cM, .int .i64 L] (.func (.func G) #[] capG) L S.length M.length bD bS bM (msTo S gs (c + 1)) (List.replicate M.length 0)) := Lib.hid (by
          obtain ⟨k1, k2, k3, k4, k5, k6, k7, k8, k9⟩ := HA.out
          exact ⟨k1.setOther _ _ k9.1, k2.setInt c _, k3.setOther _ _ (fun e => k9.2.2 e.symm), k4.setOther _ _ (by simp; omega), k5.setOther _ _ (by simp; omega), k6.setOther _ _ (by simp; omega), (k7.setCell (by simp; omega) _).drew, k8, k9⟩)
        generalize nth S c = s at *
        generalize gs c = gc at *
        clear hcS
        go_wp2_with fail
        go_region_with (refine HKw.out.mono ?_; rintro e w' ⟨rfl, rfl⟩)
        all_goals
          go_wp2_with fail
          go_roundg (S.length - (c + 1))
          case measure => omega
          case rel => exact ⟨c + 1, by omega, rfl, by go_num, Hst.out⟩
      · obtain rfl : c = S.length := by omega
        have hcb1 := HA.out.box.cell 1
        simp only [List.getElem?_cons_succ, List.getElem?_cons_zero] at hcb1
        go_wp2_with fail
        go_loopg [46] M.length (fun g i wr => ∃ h : Nat, h ≤ M.length ∧ g = M.length - h ∧ i = .int .i64 h ∧ MvA w wr [.slice aS S.length cS, .slice aM M.length cM, .int .i64 L] (.func (.func G) #[] capG) L S.length M.length bD bS bM (msTo S gs S.length) (mvTo (fun h => tn h (gb (h / 4) (h % 4))) M h))
        case atStart => exact ⟨0, Nat.zero_le _, rfl, rfl, HA.out⟩
        case round =>
          clear HA hcb1
          obtain ⟨h, hh, rfl, rfl, hA⟩ := hrel
          have HA := Lib.hid hA
          clear hA
          by_cases hhl : h < M.length
          · obtain ⟨b, off, hab, _, hcM⟩ := (HM.out.later HA.out.below).open (by omega)
            subst hab
            obtain ⟨hm1, hm2⟩ := Hmt.out h (by omega)
            have hcc := hcM h hhl
            rw [hm1] at hcc
            have hcD := HA.out.D.cell 1
            simp only [List.getElem?_cons_succ, List.getElem?_cons_zero] at hcD
            have hd1 := Hgb.out (h / 4) (h % 4) (by omega) (by omega)
            have hd2 := Hgb.out (mt M h / 4) (mt M h % 4) (by omega) (by omega)
            have Hc1 := Lib.hid (movc_any wr.drew (w.heap.size + 1) G capG h gb HcG.out HA.out.fn (by omega) hd1 (HG.out wr.drew (h / 4) (h % 4) HA.out.below.drew (by omega) (by omega)))
            have Hc2 := Lib.hid (movc_any wr.drew (w.heap.size + 1) G capG (mt M h) gb HcG.out HA.out.fn (by omega) hd2 (HG.out wr.drew (mt M h / 4) (mt M h % 4) HA.out.below.drew (by omega) (by omega)))
            have hlt1 : tn h (gb (h / 4) (h % 4)) < M.length := by have := tn_lt h n (gb (h / 4) (h % 4)) (by omega); omega
            have hcX := HA.out.M.int (tn h (gb (h / 4) (h % 4))) (by rw [mvTo_len]; exact hlt1)
            have hfX := HA.out.M.frozen (tn h (gb (h / 4) (h % 4)))
            have Hst : Hid (MvA w ((wr.setCell ⟨bM, tn h (gb (h / 4) (h % 4)), none⟩ (.int .i64 ((tn (mt M h) (gb (mt M h / 4) (mt M h % 4)) : Nat) : Int))).drew) [.slice aS S.length cS, .slice (some ⟨b, off, none⟩) M.length cM, .int .i64 L] (.func (.func G) #[] capG) L S.length M.length bD bS bM (msTo S gs S.length) (mvTo (fun h => tn h (gb (h / 4) (h % 4))) M (h + 1))) := Lib.hid (by
              obtain ⟨k1, k2, k3, k4, k5, k6, k7, k8, k9⟩ := HA.out
              exact ⟨k1.setOther _ _ k9.2.1, k2.setOther _ _ k9.2.2, k3.setInt _ _, k4.setOther _ _ (by simp; omega), k5.setOther _ _ (by simp; omega), k6.setOther _ _ (by simp; omega), (k7.setCell (by simp; omega) _).drew, k8, k9⟩)
            generalize tn h (gb (h / 4) (h % 4)) = x1 at *
            generalize tn (mt M h) (gb (mt M h / 4) (mt M h % 4)) = x2 at *
            generalize nth (mvTo (fun h => tn h (gb (h / 4) (h % 4))) M h) x1 = x3 at *
            generalize mt M h = m at *
            clear hcM hm1 hd1 hd2
            go_wp2_with fail
            go_region_with (first | (with_reducible refine Hc1.out.mono ?_; rintro e w' ⟨rfl, rfl⟩) | (with_reducible refine Hc2.out.mono ?_; rintro e w' ⟨rfl, rfl⟩))
            all_goals
              go_wp2_with fail
              go_roundg (M.length - (h + 1))
              case measure => omega
              case rel => exact ⟨h + 1, by omega, rfl, by go_num, Hst.out⟩
          · obtain rfl : h = M.length := by omega
            have hcD0 := HA.out.D.cell 0
            have hcD1 := HA.out.D.cell 1
            have hcD2 := HA.out.D.cell 2
            have hcR0 := HA.out.res.cell 0
            have hcR1 := HA.out.res.cell 1
            have hcR2 := HA.out.res.cell 2
            have hfR0 := HA.out.res.frozen 0
            have hfR1 := HA.out.res.frozen 1
            have hfR2 := HA.out.res.frozen 2
            simp only [List.getElem?_cons_succ, List.getElem?_cons_zero] at hcD0 hcD1 hcD2 hcR0 hcR1 hcR2
            go_wp2_with fail
            obtain ⟨Wf, hWf⟩ : ∃ Wf, Wf = ((wr.setCell ⟨w.heap.size + 1 + 1, 0, none⟩ (.slice (some ⟨bS, 0, none⟩) S.length S.length)).setCell ⟨w.heap.size + 1 + 1, 1, none⟩ (.slice (some ⟨bM, 0, none⟩) M.length M.length)).setCell ⟨w.heap.size + 1 + 1, 2, none⟩ (.int .i64 L) := ⟨_, rfl⟩
            rw [← hWf]
            have hRf : Row Wf (w.heap.size + 1 + 1) 24 [.slice (some ⟨bS, 0, none⟩) S.length S.length, .slice (some ⟨bM, 0, none⟩) M.length M.length, .int .i64 L] := by
              rw [hWf]; exact ((HA.out.res.set 0 _).set 1 _).set 2 _
            have Hfin : Hid (Row Wf bS 3 (ints (mulS S gs)) ∧ Row Wf bM 3 (ints (mvL (fun h => tn h (gb (h / 4) (h % 4))) M)) ∧ Below w.heap.size w Wf) := Lib.hid (by
              obtain ⟨k1, k2, k3, k4, k5, k6, k7, k8, k9⟩ := HA.out
              rw [hWf, ← msTo_all]
              exact ⟨((k2.setOther _ _ (by simp; omega)).setOther _ _ (by simp; omega)).setOther _ _ (by simp; omega), ((k3.setOther _ _ (by simp; omega)).setOther _ _ (by simp; omega)).setOther _ _ (by simp; omega), ((k7.setCell (by simp; omega) _).setCell (by simp; omega) _).setCell (by simp; omega) _⟩)
            have hF0 := hRf.cell 0
            have hF1 := hRf.cell 1
            have hF2 := hRf.cell 2
            simp only [List.getElem?_cons_succ, List.getElem?_cons_zero] at hF0 hF1 hF2
            clear hWf hRf hcD0 hcD1 hcD2 hcR0 hcR1 hcR2 hfR0 hfR1 hfR2
            refine bodyPost_ret (v := .agg #[.slice (some ⟨bS, 0, none⟩) S.length S.length, .slice (some ⟨bM, 0, none⟩) M.length M.length, .int .i64 L]) (by simp [results, Try.results113, go_sem, hF0, hF1, hF2]) rfl ?_
            exact ⟨bS, bM, rfl, Hfin.out⟩
end Go.Proofs.Ytkopbcehfbmnmaa
