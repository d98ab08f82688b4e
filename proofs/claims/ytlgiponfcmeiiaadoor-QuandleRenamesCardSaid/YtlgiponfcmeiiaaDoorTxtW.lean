/- The walk of quandle.text: the rows of a table as a text. -/
import Derived.Test.YtlgiponfcmeiiaaDoorBldW
import Derived.Test.YtlgiponfcmeiiaaDoorShelf
namespace Go.Proofs.YtlgiponfcmeiiaaDoor
open Go Go.RowKit
/-- The first j entries of row x. -/
def rowT (f : Nat → Nat → Nat) (x : Nat) : Nat → List UInt8
  | 0 => []
  | j + 1 => rowT f x j ++ (if 0 < j then [32] else []) ++ Lib.decDigits (f x j)
/-- The first r rows. -/
def txtT (f : Nat → Nat → Nat) (n : Nat) : Nat → List UInt8
  | 0 => []
  | r + 1 => txtT f n r ++ (if 0 < r then [59, 32] else []) ++ rowT f r n
/-- .. and what stands ahead of the next one. -/
def prT (f : Nat → Nat → Nat) (n r : Nat) : List UInt8 := txtT f n r ++ (if 0 < r then [59, 32] else [])
theorem txtT_succ (f : Nat → Nat → Nat) (n r : Nat) : txtT f n (r + 1) = prT f n r ++ rowT f r n := rfl
theorem rowT_succ (f : Nat → Nat → Nat) (x j : Nat) : rowT f x (j + 1) = rowT f x j ++ (if 0 < j then [32] else []) ++ Lib.decDigits (f x j) := rfl
theorem cells_app (l m : List UInt8) : Lib.byteCells (l ++ m) = Lib.byteCells l ++ Lib.byteCells m := by simp [Lib.byteCells]
theorem cells_str (m : List UInt8) : Lib.strCells ⟨m.toArray⟩ = Lib.byteCells m := by simp [Lib.strCells, Lib.byteCells]
theorem cells_len (m : List UInt8) : (Lib.byteCells m).length = m.length := by simp [Lib.byteCells]
theorem dig_len {u : Nat} (h : u < 100) : (Lib.decDigits u).length ≤ 2 := by
  rw [Lib.decDigits]
  split
  · simp
  · rw [Lib.decDigits, dif_pos (by omega)]
    simp
theorem rowT_len {f : Nat → Nat → Nat} {x n : Nat} (hf : ∀ y, y < n → f x y < 100) : ∀ j, j ≤ n → (rowT f x j).length ≤ 3 * j
  | 0, _ => Nat.le_refl _
  | j + 1, h => by
    have h1 := rowT_len hf j (by omega)
    have h2 := dig_len (hf j (by omega))
    rw [rowT, List.length_append, List.length_append]
    split <;> simp <;> omega
theorem txtT_len {f : Nat → Nat → Nat} {n : Nat} (hf : ∀ x y, x < n → y < n → f x y < 100) : ∀ r, r ≤ n → (txtT f n r).length ≤ (3 * n + 2) * r
  | 0, _ => Nat.zero_le _
  | r + 1, h => by
    have h1 := txtT_len hf r (by omega)
    have h2 := rowT_len (x := r) (fun y => hf r y (by omega)) n (Nat.le_refl _)
    rw [txtT, List.length_append, List.length_append, Nat.mul_succ]
    split <;> simp <;> omega
set_option maxRecDepth 100000 in
set_option maxHeartbeats 4000000 in
theorem text_any (b o : Nat) (P Q C : Nat → Nat) (n : Nat) (f : Nat → Nat → Nat) (c : Nat) (w : World) (hn : n ≤ 30) (hG : Grd w b o P Q C n f) :
    Calls Tryd.prog 31 #[.slice (some ⟨b, o, none⟩) n c] w fun e w' => e = .returned (.string ⟨(txtT f n n).toArray⟩) ∧ Below w.heap.size w w' := by
  have HG : Hid (∀ W', Below w.heap.size w W' → Grd W' b o P Q C n f) := Lib.hid fun W' h => hG.later h
  have hlt := hG.lt
  have Hlt := Lib.hid hlt
  have HL : Hid (∀ r j, r < n → j ≤ n → (prT f n r ++ rowT f r j).length ≤ 10000 ∧ (txtT f n r).length ≤ 10000) := Lib.hid fun r j hr hj => by
    have h1 := txtT_len (f := f) (n := n) (fun x y hx hy => by have := hlt x y hx hy; omega) r (by omega)
    have h2 := rowT_len (f := f) (x := r) (n := n) (fun y hy => by have := hlt r y hr hy; omega) j hj
    have h3 : (3 * n + 2) * r ≤ 92 * 30 := Nat.mul_le_mul (by omega) (by omega)
    unfold prT
    rw [List.length_append, List.length_append]
    split <;> simp <;> omega
  have HD : Hid (∀ x y, x < n → y < n → (Lib.decDigits (f x y)).length ≤ 2 ∧ f x y < 100) := Lib.hid fun x y hx hy => by
    have := hlt x y hx hy
    exact ⟨dig_len (by omega), by omega⟩
  have H0 := Lib.hid (Lib.fresh_isBuilder 59 5 w)
  have Hb0 := Lib.hid ((Below.refl w.heap.size w).alloc (Nat.le_refl _) (.cells #[.pointer none, .slice none 0 0] 59))
  have HB : Hid (w.heap.size ≤ w.heap.size) := Lib.hid (Nat.le_refl _)
  clear hG hlt Hlt
  obtain ⟨W, hW⟩ : ∃ W, W = w.alloc (.cells #[.pointer none, .slice none 0 0] 59) := ⟨_, rfl⟩
  rw [← hW] at H0 Hb0
  go_enter Tryd.func31, Tryd.ntmps31
  go_wp2_with fail
  rw [← hW]
  clear hW
  have HBB : Hid (∀ W', Below w.heap.size w W' → w.heap.size ≤ W'.heap.size) := Lib.hid fun W' h => h.size
  clear HB
  generalize hBe : w.heap.size = B at *
  have HBe := Lib.hid hBe
  clear hBe
  go_loopg [10] n (fun g v wr => ∃ r : Nat, r ≤ n ∧ g = n - r ∧ v = .int .i64 r ∧ Lib.IsBuilder 59 5 B B (Lib.byteCells (txtT f n r)) wr ∧ Below B w wr)
  case atStart => exact ⟨0, Nat.zero_le _, rfl, rfl, H0.out, Hb0.out⟩
  case round =>
    obtain ⟨r, hr, rfl, rfl, hh, hb⟩ := hrel
    have Hh := Lib.hid hh
    have Hb := Lib.hid hb
    clear hh hb H0 Hb0
    by_cases hrn : r < n
    · have h1 := (HG.out _ Hb.out).row r hrn
      by_cases hr0 : r = 0
      · have d1 : decide (0 < (r : Int)) = false := decide_eq_false (by omega)
        have d2 : decide (0 < r) = false := decide_eq_false (by omega)
        have Hp : Hid (Lib.IsBuilder 59 5 B B (Lib.byteCells (prT f n r)) wr) := Lib.hid (by unfold prT; rw [if_neg (by omega), List.append_nil]; exact Hh.out)
        clear hr0
        go_wp2_with fail
        go_loopg [20] n (fun g v wx => ∃ j : Nat, j ≤ n ∧ g = n - j ∧ v = .int .i64 j ∧ Lib.IsBuilder 59 5 B B (Lib.byteCells (prT f n r ++ rowT f r j)) wx ∧ Below B w wx)
        case atStart => exact ⟨0, Nat.zero_le _, rfl, rfl, by rw [rowT, List.append_nil]; exact Hp.out, Hb.out⟩
        case round =>
          obtain ⟨j, hj, rfl, rfl, hk, hkb⟩ := hrel
          have Hk := Lib.hid hk
          have Hkb := Lib.hid hkb
          clear hk hkb
          by_cases hjn : j < n
          · have h1 := (HG.out _ Hkb.out).row r hrn
            have h2 := (HG.out _ Hkb.out).el r j hrn hjn
            obtain ⟨hd2, hd1⟩ := HD.out r j hrn hjn
            have hll := (HL.out r j hrn (by omega)).1
            have Hsu := Lib.hid (rowT_succ f r j)
            have Hdd := Lib.hid hd2
            have Hll := Lib.hid hll
            clear hd2 hll
            by_cases hj0 : j = 0
            · have d1 : decide (0 < (j : Int)) = false := decide_eq_false (by omega)
              have d2 : decide (0 < j) = false := decide_eq_false (by omega)
              rw [if_neg (by omega), List.append_nil] at Hsu
              generalize f r j = u at *
              clear hj0
              go_wp2_with fail
              refine (Tryd.strconv_Itoa_small u hd1 wr).mono ?_
              rintro e w5 ⟨rfl, rfl⟩
              go_wp2_with fail
              refine (wstring_any B B (Lib.byteCells (prT f n r ++ rowT f r j)) ⟨(Lib.decDigits u).toArray⟩ w5 Hk.out (by rw [Lib.byteCells_length]; have h1 := Hll.out; have h2 := Hdd.out; show _ + (Lib.decDigits u).toArray.size ≤ _; rw [List.size_toArray]; omega) (HBB.out _ Hkb.out)).mono ?_
              rintro e w6 ⟨rfl, hb1, hb2⟩
              have HN := Lib.hid (show Lib.IsBuilder 59 5 B B _ w6 from .inr hb1)
              have HBN := Lib.hid (Hkb.out.trans hb2)
              have HNN : Hid (Lib.IsBuilder 59 5 B B (Lib.byteCells (prT f n r ++ rowT f r (j + 1))) w6) := Lib.hid (by
                have h := HN.out
                rw [cells_str, ← cells_app, List.append_assoc, ← Hsu.out] at h
                exact h)
              clear hb1 hb2 HN
              go_wp2_with fail
              go_roundg (n - (j + 1))
              case measure => omega
              case rel => exact ⟨j + 1, by omega, rfl, by go_num, HNN.out, HBN.out⟩
            · have d1 : decide (0 < (j : Int)) = true := decide_eq_true (by omega)
              have d2 : decide (0 < j) = true := decide_eq_true (by omega)
              rw [if_pos (by omega)] at Hsu
              generalize f r j = u at *
              go_wp2_with fail
              refine (wbyte_any B B (Lib.byteCells (prT f n r ++ rowT f r j)) 32 wr Hk.out (by rw [Lib.byteCells_length]; have h1 := Hll.out; omega) (HBB.out _ Hkb.out)).mono ?_
              rintro e w4 ⟨rfl, hb1, hb2⟩
              have HM := Lib.hid (show Lib.IsBuilder 59 5 B B _ w4 from .inr hb1)
              have HBM := Lib.hid (Hkb.out.trans hb2)
              have HMM : Hid (Lib.IsBuilder 59 5 B B (Lib.byteCells (prT f n r ++ rowT f r j ++ [32])) w4) := Lib.hid (by
                have h := HM.out
                rw [show [Value.int .u8 32] = Lib.byteCells [32] from rfl, ← cells_app] at h
                exact h)
              clear hb1 hb2 HM
              go_wp2_with fail
              refine (Tryd.strconv_Itoa_small u hd1 w4).mono ?_
              rintro e w5 ⟨rfl, rfl⟩
              go_wp2_with fail
              refine (wstring_any B B (Lib.byteCells (prT f n r ++ rowT f r j ++ [32])) ⟨(Lib.decDigits u).toArray⟩ w5 HMM.out (by rw [Lib.byteCells_length, List.length_append]; have h1 := Hll.out; have h2 := Hdd.out; show _ + (Lib.decDigits u).toArray.size ≤ _; rw [List.size_toArray, List.length_singleton]; omega) (HBB.out _ HBM.out)).mono ?_
              rintro e w6 ⟨rfl, hb1, hb2⟩
              have HN := Lib.hid (show Lib.IsBuilder 59 5 B B _ w6 from .inr hb1)
              have HBN := Lib.hid (HBM.out.trans hb2)
              have HNN : Hid (Lib.IsBuilder 59 5 B B (Lib.byteCells (prT f n r ++ rowT f r (j + 1))) w6) := Lib.hid (by
                have h := HN.out
                rw [cells_str, ← cells_app] at h
                have e : prT f n r ++ rowT f r (j + 1) = prT f n r ++ rowT f r j ++ [32] ++ Lib.decDigits u := by rw [Hsu.out]; simp
                rw [e]
                exact h)
              clear hb1 hb2 HN HMM HBM
              go_wp2_with fail
              go_roundg (n - (j + 1))
              case measure => omega
              case rel => exact ⟨j + 1, by omega, rfl, by go_num, HNN.out, HBN.out⟩
          · obtain rfl : j = n := by omega
            rw [← txtT_succ] at Hk
            go_wp2_with fail
            go_roundg (j - (r + 1))
            case measure => omega
            case rel => exact ⟨r + 1, by omega, rfl, by go_num, Hk.out, Hkb.out⟩
      · have d1 : decide (0 < (r : Int)) = true := decide_eq_true (by omega)
        have d2 : decide (0 < r) = true := decide_eq_true (by omega)
        have Hp0 : Hid (prT f n r = txtT f n r ++ [59, 32]) := Lib.hid (by unfold prT; rw [if_pos (by omega)])
        have hl0 := (HL.out r 0 hrn (Nat.zero_le _)).2
        go_wp2_with fail
        refine (wstring_any B B (Lib.byteCells (txtT f n r)) ⟨#[59, 32]⟩ wr Hh.out (by rw [Lib.byteCells_length]; show _ + 2 ≤ _; omega) (HBB.out _ Hb.out)).mono ?_
        rintro e w2 ⟨rfl, hb1, hb2⟩
        have HN := Lib.hid (show Lib.IsBuilder 59 5 B B _ w2 from .inr hb1)
        have Hb9 := Lib.hid (Hb.out.trans hb2)
        have Hp : Hid (Lib.IsBuilder 59 5 B B (Lib.byteCells (prT f n r)) w2) := Lib.hid (by
          have h := HN.out
          rw [show Lib.strCells ⟨#[59, 32]⟩ = Lib.byteCells [59, 32] from rfl, ← cells_app, ← Hp0.out] at h
          exact h)
        clear hb1 hb2 HN hl0
        go_wp2_with fail
        go_loopg [20] n (fun g v wx => ∃ j : Nat, j ≤ n ∧ g = n - j ∧ v = .int .i64 j ∧ Lib.IsBuilder 59 5 B B (Lib.byteCells (prT f n r ++ rowT f r j)) wx ∧ Below B w wx)
        case atStart => exact ⟨0, Nat.zero_le _, rfl, rfl, by rw [rowT, List.append_nil]; exact Hp.out, Hb9.out⟩
        case round =>
          obtain ⟨j, hj, rfl, rfl, hk, hkb⟩ := hrel
          have Hk := Lib.hid hk
          have Hkb := Lib.hid hkb
          clear hk hkb
          by_cases hjn : j < n
          · have h1 := (HG.out _ Hkb.out).row r hrn
            have h2 := (HG.out _ Hkb.out).el r j hrn hjn
            obtain ⟨hd2, hd1⟩ := HD.out r j hrn hjn
            have hll := (HL.out r j hrn (by omega)).1
            have Hsu := Lib.hid (rowT_succ f r j)
            have Hdd := Lib.hid hd2
            have Hll := Lib.hid hll
            clear hd2 hll
            by_cases hj0 : j = 0
            · have d1 : decide (0 < (j : Int)) = false := decide_eq_false (by omega)
              have d2 : decide (0 < j) = false := decide_eq_false (by omega)
              rw [if_neg (by omega), List.append_nil] at Hsu
              generalize f r j = u at *
              clear hj0
              go_wp2_with fail
              refine (Tryd.strconv_Itoa_small u hd1 wr).mono ?_
              rintro e w5 ⟨rfl, rfl⟩
              go_wp2_with fail
              refine (wstring_any B B (Lib.byteCells (prT f n r ++ rowT f r j)) ⟨(Lib.decDigits u).toArray⟩ w5 Hk.out (by rw [Lib.byteCells_length]; have h1 := Hll.out; have h2 := Hdd.out; show _ + (Lib.decDigits u).toArray.size ≤ _; rw [List.size_toArray]; omega) (HBB.out _ Hkb.out)).mono ?_
              rintro e w6 ⟨rfl, hb1, hb2⟩
              have HN := Lib.hid (show Lib.IsBuilder 59 5 B B _ w6 from .inr hb1)
              have HBN := Lib.hid (Hkb.out.trans hb2)
              have HNN : Hid (Lib.IsBuilder 59 5 B B (Lib.byteCells (prT f n r ++ rowT f r (j + 1))) w6) := Lib.hid (by
                have h := HN.out
                rw [cells_str, ← cells_app, List.append_assoc, ← Hsu.out] at h
                exact h)
              clear hb1 hb2 HN
              go_wp2_with fail
              go_roundg (n - (j + 1))
              case measure => omega
              case rel => exact ⟨j + 1, by omega, rfl, by go_num, HNN.out, HBN.out⟩
            · have d1 : decide (0 < (j : Int)) = true := decide_eq_true (by omega)
              have d2 : decide (0 < j) = true := decide_eq_true (by omega)
              rw [if_pos (by omega)] at Hsu
              generalize f r j = u at *
              go_wp2_with fail
              refine (wbyte_any B B (Lib.byteCells (prT f n r ++ rowT f r j)) 32 wr Hk.out (by rw [Lib.byteCells_length]; have h1 := Hll.out; omega) (HBB.out _ Hkb.out)).mono ?_
              rintro e w4 ⟨rfl, hb1, hb2⟩
              have HM := Lib.hid (show Lib.IsBuilder 59 5 B B _ w4 from .inr hb1)
              have HBM := Lib.hid (Hkb.out.trans hb2)
              have HMM : Hid (Lib.IsBuilder 59 5 B B (Lib.byteCells (prT f n r ++ rowT f r j ++ [32])) w4) := Lib.hid (by
                have h := HM.out
                rw [show [Value.int .u8 32] = Lib.byteCells [32] from rfl, ← cells_app] at h
                exact h)
              clear hb1 hb2 HM
              go_wp2_with fail
              refine (Tryd.strconv_Itoa_small u hd1 w4).mono ?_
              rintro e w5 ⟨rfl, rfl⟩
              go_wp2_with fail
              refine (wstring_any B B (Lib.byteCells (prT f n r ++ rowT f r j ++ [32])) ⟨(Lib.decDigits u).toArray⟩ w5 HMM.out (by rw [Lib.byteCells_length, List.length_append]; have h1 := Hll.out; have h2 := Hdd.out; show _ + (Lib.decDigits u).toArray.size ≤ _; rw [List.size_toArray, List.length_singleton]; omega) (HBB.out _ HBM.out)).mono ?_
              rintro e w6 ⟨rfl, hb1, hb2⟩
              have HN := Lib.hid (show Lib.IsBuilder 59 5 B B _ w6 from .inr hb1)
              have HBN := Lib.hid (HBM.out.trans hb2)
              have HNN : Hid (Lib.IsBuilder 59 5 B B (Lib.byteCells (prT f n r ++ rowT f r (j + 1))) w6) := Lib.hid (by
                have h := HN.out
                rw [cells_str, ← cells_app] at h
                have e : prT f n r ++ rowT f r (j + 1) = prT f n r ++ rowT f r j ++ [32] ++ Lib.decDigits u := by rw [Hsu.out]; simp
                rw [e]
                exact h)
              clear hb1 hb2 HN HMM HBM
              go_wp2_with fail
              go_roundg (n - (j + 1))
              case measure => omega
              case rel => exact ⟨j + 1, by omega, rfl, by go_num, HNN.out, HBN.out⟩
          · obtain rfl : j = n := by omega
            rw [← txtT_succ] at Hk
            go_wp2_with fail
            go_roundg (j - (r + 1))
            case measure => omega
            case rel => exact ⟨r + 1, by omega, rfl, by go_num, Hk.out, Hkb.out⟩
    · obtain rfl : r = n := by omega
      go_wp2_with fail
      refine (Tryd.Builder_String_any B B (txtT f r r) wr Hh.out (HBB.out _ Hb.out)).mono ?_
      rintro e w3 ⟨rfl, hb3⟩
      have Hb3 := Lib.hid (Hb.out.trans hb3)
      clear hb3
      go_wp2_with fail
      go_ret
      exact ⟨rfl, by rw [HBe.out]; exact Hb3.out⟩
end Go.Proofs.YtlgiponfcmeiiaaDoor
