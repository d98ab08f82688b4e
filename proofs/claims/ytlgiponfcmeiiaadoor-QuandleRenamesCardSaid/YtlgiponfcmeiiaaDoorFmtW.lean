/- The walks of quandle.Dihedral and quandle.Format. -/
import Derived.Test.YtlgiponfcmeiiaaDoorAffY
import Derived.Test.YtlgiponfcmeiiaaDoorTxtW
namespace Go.Proofs.YtlgiponfcmeiiaaDoor
open Go Go.RowKit
set_option maxRecDepth 100000 in
set_option maxHeartbeats 4000000 in
theorem dih_range (n : Int) (w : World) (h : n < 1 ∨ 30 < n) :
    Calls Tryd.prog 12 #[.int .i64 n] w fun e w' => e = .returned (.tuple #[.agg #[.slice none 0 0], .int .i64 2]) ∧ Below w.heap.size w w' := by
  obtain ⟨W, hW⟩ : ∃ W, W = w.alloc (.cells #[.slice none 0 0] 25) := ⟨_, rfl⟩
  have h0 : HH w W [(w.heap.size, rowO 25 [.slice none 0 0])] [] := by rw [hW]; exact (HH.start w).alloc #[.slice none 0 0] 25 rfl rfl
  have H0 := Lib.hid h0
  clear h0
  have HC := Lib.hid (aff_range n (-1) W h)
  go_enter Tryd.func12, Tryd.ntmps12
  go_wp2_with fail
  rw [← hW]
  clear hW
  refine HC.out.mono ?_
  rintro e w1 ⟨rfl, hb⟩
  have H1 := Lib.hid (H0.out.call hb)
  clear hb H0 HC
  have hc0 := H1.out.cell (k := 0) (i := 0) rfl rfl
  have hf0 := H1.out.frozen (k := 0) rfl 0
  have H9 := H1.out.set (k := 0) rfl 0 (.slice none 0 0)
  have hF0 := H9.cell (k := 0) (i := 0) rfl rfl
  have Hfin := Lib.hid H9.below
  clear H9
  go_wp2_with fail
  refine bodyPost_ret (v := .tuple #[.agg #[.slice none 0 0], .int .i64 2]) (by simp [results, Tryd.results12, go_sem, hF0]) rfl ?_
  exact ⟨rfl, Hfin.out⟩
/-- The factor of the dihedral quandle. -/
theorem dih_t (n : Nat) (h1 : 1 ≤ n) : ((-1 : Int) % (n : Int)).toNat = n - 1 ∧ Nat.gcd (n - 1) n = 1 := by
  refine ⟨?_, ?_⟩
  · have : (-1 : Int) % (n : Int) = (n : Int) - 1 := by
      rw [show (-1 : Int) = ((n : Int) - 1) + n * (-1) by omega, Int.add_mul_emod_self_left, Int.emod_eq_of_lt (by omega) (by omega)]
    rw [this]; omega
  · obtain ⟨k, rfl⟩ : ∃ k, n = k + 1 := ⟨n - 1, by omega⟩
    rw [Nat.add_sub_cancel]
    simp
set_option maxRecDepth 100000 in
set_option maxHeartbeats 4000000 in
theorem dih_yes (n : Nat) (w : World) (h1 : 1 ≤ n) (h30 : n ≤ 30) :
    Calls Tryd.prog 12 #[.int .i64 (n : Int)] w fun e w' => ∃ A E, e = .returned (.tuple #[.agg #[.slice A n E], .int .i64 0]) ∧ TabNew w.heap.size w' A (afT n (n - 1)) ∧ Below w.heap.size w w' := by
  obtain ⟨W, hW⟩ : ∃ W, W = w.alloc (.cells #[.slice none 0 0] 25) := ⟨_, rfl⟩
  have h0 : HH w W [(w.heap.size, rowO 25 [.slice none 0 0])] [] := by rw [hW]; exact (HH.start w).alloc #[.slice none 0 0] 25 rfl rfl
  have H0 := Lib.hid h0
  have HWs : Hid (w.heap.size < W.heap.size) := Lib.hid (h0.lt List.mem_cons_self)
  have HWl : Hid (w.heap.size ≤ W.heap.size) := Lib.hid h0.below.size
  clear h0
  have HC := Lib.hid (aff_yes n (-1) W h1 h30 (n - 1) (dih_t n h1).1.symm (dih_t n h1).2)
  go_enter Tryd.func12, Tryd.ntmps12
  go_wp2_with fail
  rw [← hW]
  clear hW
  refine HC.out.mono ?_
  rintro e w1 ⟨A, E, rfl, ht, hb⟩
  have H1 := Lib.hid (H0.out.call hb)
  have Ht := Lib.hid ht
  clear hb H0 HC ht
  have hc0 := H1.out.cell (k := 0) (i := 0) rfl rfl
  have hf0 := H1.out.frozen (k := 0) rfl 0
  have H9 := H1.out.set (k := 0) rfl 0 (.slice A n E)
  have hF0 := H9.cell (k := 0) (i := 0) rfl rfl
  have Hfin := Lib.hid H9.below
  clear H9
  go_wp2_with fail
  refine bodyPost_ret (v := .tuple #[.agg #[.slice A n E], .int .i64 0]) (by simp [results, Tryd.results12, go_sem, hF0]) rfl ?_
  exact ⟨A, E, rfl, (Ht.out.set _ _ HWs.out).mono HWl.out, Hfin.out⟩
set_option maxRecDepth 100000 in
set_option maxHeartbeats 4000000 in
theorem fmt_no (T : List (List Int)) (a : Option Addr) (c : Nat) (w : World) (hTl : T.length ≤ 1000000) (hRl : ∀ l ∈ T, l.length ≤ 1000000) (hT : TabAt w a T) (hq : ¬ Qnd T) :
    Calls Tryd.prog 23 #[.agg #[.slice a T.length c]] w fun e w' => e = .returned (.tuple #[.string ⟨#[]⟩, .int .i64 1]) ∧ Below w.heap.size w w' := by
  obtain ⟨W, hW⟩ : ∃ W, W = w.alloc (.cells #[.slice a T.length c] 25) := ⟨_, rfl⟩
  have h0 : HH w W [(w.heap.size, rowO 25 [.slice a T.length c])] [] := by rw [hW]; exact (HH.start w).alloc #[.slice a T.length c] 25 rfl rfl
  have H0 := Lib.hid h0
  clear h0
  have HC := Lib.hid (qvalid_any T a c W hTl hRl (hT.later H0.out.below))
  rw [okB_no hq] at HC
  have hc0 := H0.out.cell (k := 0) (i := 0) rfl rfl
  clear hT hRl hq
  go_enter Tryd.func23, Tryd.ntmps23
  rw [hW] at hc0
  go_wp2_with fail
  rw [← hW]
  clear hW hc0
  refine HC.out.mono ?_
  rintro e w1 ⟨rfl, hb⟩
  have H1 := Lib.hid (H0.out.call hb)
  clear hb H0 HC
  go_wp2_with fail
  refine bodyPost_ret (v := .tuple #[.string ⟨#[]⟩, .int .i64 1]) (by simp [results, Tryd.results23, go_sem]) rfl ?_
  exact ⟨rfl, H1.out.below⟩
set_option maxRecDepth 100000 in
set_option maxHeartbeats 4000000 in
theorem fmt_yes (T : List (List Int)) (n : Nat) (a : Option Addr) (c : Nat) (w : World) (hn : T.length = n) (hT : TabAt w a T) (hq : Qnd T) :
    Calls Tryd.prog 23 #[.agg #[.slice a n c]] w fun e w' => e = .returned (.tuple #[.string ⟨(txtT (tbn T) n n).toArray⟩, .int .i64 0]) ∧ Below w.heap.size w w' := by
  obtain ⟨W, hW⟩ : ∃ W, W = w.alloc (.cells #[.slice a n c] 25) := ⟨_, rfl⟩
  have h0 : HH w W [(w.heap.size, rowO 25 [.slice a n c])] [] := by rw [hW]; exact (HH.start w).alloc #[.slice a n c] 25 rfl rfl
  have H0 := Lib.hid h0
  clear h0
  have hsh := hq.2.1
  have hl := hq.1
  rw [hn] at hsh hl
  have HC := Lib.hid (qvalid_any T a c W (by omega) (fun l hl2 => by
    obtain ⟨i, hi⟩ := List.getElem?_of_mem hl2
    have hil := (List.getElem?_eq_some_iff.1 hi).1
    have := (hsh.2 i (by omega)).1
    rw [List.getD_eq_getElem?_getD, hi] at this
    have : l.length = n := this
    omega) (hT.later H0.out.below))
  rw [okB_yes hq, hn] at HC
  obtain ⟨b, o, P, Q, C, rfl, hG⟩ := grd_of hT hl.1 hsh
  have HX : Hid (∀ W', Below w.heap.size w W' → Calls Tryd.prog 31 #[.slice (some ⟨b, o, none⟩) n c] W' fun e w' => e = .returned (.string ⟨(txtT (tbn T) n n).toArray⟩) ∧ Below W'.heap.size W' w') := Lib.hid fun W' h => text_any b o P Q C n (tbn T) c W' hl.2 (hG.later h)
  generalize (txtT (tbn T) n n).toArray = X at *
  have hc0 := H0.out.cell (k := 0) (i := 0) rfl rfl
  clear hT hq hsh hl hn hG
  go_enter Tryd.func23, Tryd.ntmps23
  rw [hW] at hc0
  go_wp2_with fail
  rw [← hW]
  clear hW hc0
  refine HC.out.mono ?_
  rintro e w1 ⟨rfl, hb⟩
  have H1 := Lib.hid (H0.out.call hb)
  clear hb H0 HC
  have hc0 := H1.out.cell (k := 0) (i := 0) rfl rfl
  go_wp2_with fail
  refine (HX.out w1 H1.out.below).mono ?_
  rintro e w2 ⟨rfl, hb⟩
  have H2 := Lib.hid (H1.out.call hb)
  clear hb H1 HX hc0
  go_wp2_with fail
  refine bodyPost_ret (v := .tuple #[.string ⟨X⟩, .int .i64 0]) (by simp [results, Tryd.results23, go_sem]) rfl ?_
  exact ⟨rfl, H2.out.below⟩
end Go.Proofs.YtlgiponfcmeiiaaDoor
