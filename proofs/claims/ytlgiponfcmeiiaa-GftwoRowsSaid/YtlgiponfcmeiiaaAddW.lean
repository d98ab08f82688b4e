/- The walk of gftwo.add: the sum of two rows, in new memory. -/
import Derived.Test.YtlgiponfcmeiiaaTab
import Derived.Test.YtlgiponfcmeiiaaGfB
namespace Go.Proofs.Ytlgiponfcmeiiaa
open Go Go.RowKit
theorem ints_one (l : List Int) : ∀ u ∈ ints l, u.oneCell' = true := fun u hu => by
  obtain ⟨_, _, rfl⟩ := List.mem_map.1 hu
  rfl
theorem drop_cons (l : List Int) (i : Nat) (h : i < l.length) : l.drop i = nth l i :: l.drop (i + 1) := by
  rw [List.drop_eq_getElem_cons h]; simp [nth, h]
set_option maxRecDepth 100000 in
set_option maxHeartbeats 4000000 in
theorem add_any (xs ys : List Int) (a b : Option Addr) (c d : Nat) (w : World) (hxc : xs.length ≤ c) (hyd : ys.length ≤ d) (hxl : xs.length ≤ 1000000) (hyl : ys.length ≤ 1000000) (hX : IntsAt w a xs) (hY : IntsAt w b ys) :
    Calls Try.prog 27 #[.slice a xs.length c, .slice b ys.length d] w fun e w' => ∃ A C, e = .returned (.slice A (addL xs ys).length C) ∧ Own w' w.heap.size 3 A C (ints (addL xs ys)) ∧ Below w.heap.size w w' := by
  obtain ⟨i0, hi, hz0, hz1, hz2⟩ := info_parts Try.info3
  have hmk : ∀ W : World, (Instr.makeSlice 36 (.int .i64 0) (.int .i64 ((xs.length : Int) + (ys.length : Int)))).run Try.prog W = .ok (.slice (some ⟨W.heap.size, 0, none⟩) 0 (xs.length + ys.length)) (W.alloc (.cells (Array.replicate (xs.length + ys.length) (.int .i64 0)) 3)) := fun W => by
    have h := run_mk1 (T := 36) (z := .int .i64 0) (bytes := 8) Try.underlying36 Try.info3 rfl 0 (xs.length + ys.length) (Nat.zero_le _) (by omega) (by omega) W
    simpa using h
  have hH1 : HH w (w.alloc (.cells (Array.replicate (xs.length + ys.length) (.int .i64 0)) 3)) [] [⟨some ⟨w.heap.size, 0, none⟩, xs.length + ys.length, 3, ints []⟩] := by
    refine (HH.start w).addSl ((Below.refl _ _).alloc (Nat.le_refl _) _) (.inr ⟨w.heap.size, 0, Array.replicate (xs.length + ys.length) (.int .i64 0), rfl, Nat.le_refl _, heap_alloc_new w _, Nat.zero_le _, by simp, fun i v h => by simp [ints] at h⟩)
  have H1 := Lib.hid hH1
  have HX := Lib.hid hX
  have HY := Lib.hid hY
  have Hxc := Lib.hid hxc
  have Hyd := Lib.hid hyd
  clear hH1 hX hY hxc hyd
  go_enter Try.func27, Try.ntmps27
  go_wp2_with fail
  clear hmk
  go_loopg [5, 6, 7] (xs.length + ys.length) (fun g s5 s6 s7 wr => ∃ (i k : Nat) (A : Option Addr) (C : Nat) (zs : List Int), i ≤ xs.length ∧ k ≤ ys.length ∧ g = xs.length + ys.length - i - k ∧ zs.length ≤ i + k ∧ s5 = .slice A zs.length C ∧ s6 = .int .i64 i ∧ s7 = .int .i64 k ∧ HH w wr [] [⟨A, C, 3, ints zs⟩] ∧ zs ++ addL (xs.drop i) (ys.drop k) = addL xs ys)
  case atStart => exact ⟨0, 0, _, _, [], Nat.zero_le _, Nat.zero_le _, rfl, Nat.zero_le _, rfl, rfl, rfl, H1.out, rfl⟩
  case round =>
    obtain ⟨i, k, A, C, zs, hil, hkl, rfl, hzl, rfl, rfl, rfl, hh, hz⟩ := hrel
    have Hh := Lib.hid hh
    have Hz := Lib.hid hz
    clear hh hz
    by_cases hi2 : i < xs.length
    · by_cases hk2 : k < ys.length
      · obtain ⟨b1, o1, rfl, _, hc1⟩ := (HX.out.later Hh.out.below).open (by omega)
        obtain ⟨b2, o2, rfl, _, hc2⟩ := (HY.out.later Hh.out.below).open (by omega)
        have hx1 := hc1 i hi2
        have hx2 := hc2 k hk2
        clear hc1 hc2
        have Hd0 := Lib.hid (And.intro (drop_cons xs i hi2) (drop_cons ys k hk2))
        obtain ⟨x, hx⟩ : ∃ x, x = nth xs i := ⟨_, rfl⟩
        obtain ⟨y, hy⟩ : ∃ y, y = nth ys k := ⟨_, rfl⟩
        rw [← hx, ← hy] at Hd0
        rw [← hx] at hx1
        rw [← hy] at hx2
        clear hx hy
        by_cases hlt : x < y
        · have Hs : Hid ((zs ++ [x]) ++ addL (xs.drop (i + 1)) (ys.drop k) = addL xs ys) := Lib.hid (by
            have h := Hz.out
            rw [Hd0.out.1, Hd0.out.2, addL_lt hlt, ← Hd0.out.2] at h
            rw [← h, List.append_assoc]; rfl)
          clear Hz Hd0
          go_wp2_with fail
          go_quiet (fail)
          have Hd := Lib.hid (Hh.out.drewN nq)
          clear Hh
          have hx1q : (wr.drewN nq).cell? ⟨b1, o1 + i, none⟩ = some (.int .i64 x) := hx1
          have hx2q : (wr.drewN nq).cell? ⟨b2, o2 + k, none⟩ = some (.int .i64 y) := hx2
          clear hx1 hx2
          generalize wr.drewN nq = wq at *
          have Hn0 : Hid ((ints zs).length = zs.length) := Lib.hid (ints_length zs)
          have Ha0 := Lib.hid (Hd.out.call ((Below.refl _ _).alloc (Nat.le_refl _) (.cells #[.int .i64 x] 3)))
          have Hc0 : Hid ((wq.alloc (.cells #[.int .i64 x] 3)).cell? ⟨wq.heap.size, 0, none⟩ = some (.int .i64 x)) := Lib.hid ((Row.new wq #[.int .i64 x] 3).cell 0)
          have Hl1 : Hid (w.heap.size ≤ (wq.alloc (.cells #[.int .i64 x] 3)).heap.size) := Lib.hid Ha0.out.below.size
          go_wp2_with (with_reducible refine wpList_append_one rfl (.tmp 38) (.tmp 43) 36 rfl w.heap.size 3 i0 (.int .i64 0) 8 Try.underlying36 hi hz0 hz1 hz2 rfl A zs.length C (ints zs) rfl Hn0.out (Ha0.out.sl (k := 0) rfl) _ 1 (.int .i64 x) rfl Hc0.out rfl (by omega) (by omega) Hl1.out ?_; intro A2 e2 w2 hO2 hT2 hA2; have H2 := Lib.hid (Ha0.out.grow (k := 0) rfl hO2 hT2 hA2); clear hO2 hT2 hA2)
          go_roundg (xs.length + ys.length - (i + 1) - k)
          case measure => omega
          case rel => exact ⟨(i + 1), k, A2, e2, zs ++ [x], by omega, by omega, rfl, by simp; omega, by simp, by go_num, by go_num, by simpa [setO, ints_snoc] using H2.out, Hs.out⟩
        · by_cases hgt : y < x
          · have Hs : Hid ((zs ++ [y]) ++ addL (xs.drop i) (ys.drop (k + 1)) = addL xs ys) := Lib.hid (by
              have h := Hz.out
              rw [Hd0.out.1, Hd0.out.2, addL_gt hgt, ← Hd0.out.1] at h
              rw [← h, List.append_assoc]; rfl)
            clear Hz Hd0
            go_wp2_with fail
            go_quiet (fail)
            have Hd := Lib.hid (Hh.out.drewN nq)
            clear Hh
            have hx1q : (wr.drewN nq).cell? ⟨b1, o1 + i, none⟩ = some (.int .i64 x) := hx1
            have hx2q : (wr.drewN nq).cell? ⟨b2, o2 + k, none⟩ = some (.int .i64 y) := hx2
            clear hx1 hx2
            generalize wr.drewN nq = wq at *
            go_wp2_with fail
            go_quiet (fail)
            have He := Lib.hid (Hd.out.drewN nq)
            clear Hd
            have hx1qwp : (wq.drewN nq).cell? ⟨b1, o1 + i, none⟩ = some (.int .i64 x) := hx1q
            have hx2qwp : (wq.drewN nq).cell? ⟨b2, o2 + k, none⟩ = some (.int .i64 y) := hx2q
            clear hx1q hx2q
            generalize wq.drewN nq = wp at *
            have Hn0 : Hid ((ints zs).length = zs.length) := Lib.hid (ints_length zs)
            have Ha0 := Lib.hid (He.out.call ((Below.refl _ _).alloc (Nat.le_refl _) (.cells #[.int .i64 y] 3)))
            have Hc0 : Hid ((wp.alloc (.cells #[.int .i64 y] 3)).cell? ⟨wp.heap.size, 0, none⟩ = some (.int .i64 y)) := Lib.hid ((Row.new wp #[.int .i64 y] 3).cell 0)
            have Hl1 : Hid (w.heap.size ≤ (wp.alloc (.cells #[.int .i64 y] 3)).heap.size) := Lib.hid Ha0.out.below.size
            go_wp2_with (with_reducible refine wpList_append_one rfl (.tmp 57) (.tmp 62) 36 rfl w.heap.size 3 i0 (.int .i64 0) 8 Try.underlying36 hi hz0 hz1 hz2 rfl A zs.length C (ints zs) rfl Hn0.out (Ha0.out.sl (k := 0) rfl) _ 1 (.int .i64 y) rfl Hc0.out rfl (by omega) (by omega) Hl1.out ?_; intro A2 e2 w2 hO2 hT2 hA2; have H2 := Lib.hid (Ha0.out.grow (k := 0) rfl hO2 hT2 hA2); clear hO2 hT2 hA2)
            go_roundg (xs.length + ys.length - i - (k + 1))
            case measure => omega
            case rel => exact ⟨i, (k + 1), A2, e2, zs ++ [y], by omega, by omega, rfl, by simp; omega, by simp, by go_num, by go_num, by simpa [setO, ints_snoc] using H2.out, Hs.out⟩
          · have hxy : x = y := by omega
            subst hxy
            have Hs : Hid (zs ++ addL (xs.drop (i + 1)) (ys.drop (k + 1)) = addL xs ys) := Lib.hid (by
              have h := Hz.out
              rw [Hd0.out.1, Hd0.out.2, addL_eq] at h
              exact h)
            clear Hz Hd0
            go_wp2_with fail
            go_quiet (fail)
            have Hd := Lib.hid (Hh.out.drewN nq)
            clear Hh
            have hx1q : (wr.drewN nq).cell? ⟨b1, o1 + i, none⟩ = some (.int .i64 x) := hx1
            have hx2q : (wr.drewN nq).cell? ⟨b2, o2 + k, none⟩ = some (.int .i64 x) := hx2
            clear hx1 hx2
            generalize wr.drewN nq = wq at *
            go_wp2_with fail
            go_quiet (fail)
            have He := Lib.hid (Hd.out.drewN nq)
            clear Hd
            generalize wq.drewN nq = wp at *
            go_wp2_with fail
            go_roundg (xs.length + ys.length - (i + 1) - (k + 1))
            case measure => omega
            case rel => exact ⟨i + 1, k + 1, A, C, zs, by omega, by omega, rfl, by omega, rfl, by go_num, by go_num, He.out, Hs.out⟩
      · have Hz2 : Hid (zs ++ xs.drop i ++ ys.drop k = addL xs ys) := Lib.hid (by
          have h := Hz.out
          rw [show ys.drop k = [] from List.drop_eq_nil_of_le (by omega), addL_nil_right] at h; rw [show ys.drop k = [] from List.drop_eq_nil_of_le (by omega)]
          rw [← h]; simp)
        clear Hz
        have hL : zs.length + (xs.length - i) ≤ 4000000 := by omega
        have HD1 : Hid ((xs.drop i).length = xs.length - i) := Lib.hid List.length_drop
        have HD2 : Hid ((ys.drop k).length = ys.length - k) := Lib.hid List.length_drop
        have Hr1 : Hid (∃ A2 C2 w2, (Builtin.append_ #[36, 36] 36 #[.slice A zs.length C, .slice (fromA a i c) (xs.length - i) (c - i)]).run Try.prog wr = .ok (.slice A2 (zs.length + (xs.length - i)) C2) w2 ∧ HH w w2 [] [⟨A2, C2, 3, ints (zs ++ xs.drop i)⟩]) := Lib.hid (by
          obtain ⟨A2, C2, w2, h1, h2, h3, h4⟩ := run_append_many (P := Try.prog) wr w.heap.size 36 36 36 3 i0 (.int .i64 0) 8 Try.underlying36 Try.underlying36 hi hz0 hz1 hz2 rfl A C (ints zs) (Hh.out.sl (k := 0) rfl) (fromA a i c) (c - i) (ints (xs.drop i)) ((HX.out.later Hh.out.below).from Hxc.out) (ints_one _) (by rw [ints_length, ints_length, HD1.out]; omega) (by rw [ints_length, ints_length, HD1.out]; omega) Hh.out.below.size
          rw [ints_length, ints_length, HD1.out] at h1
          refine ⟨A2, C2, w2, h1, ?_⟩
          have := Hh.out.grow (k := 0) rfl h2 h3 h4
          simpa [setO, ints] using this)
        obtain ⟨A2, C2, w2, hr1, hh2⟩ := Hr1.out
        have Hr1 := Lib.hid hr1
        have Hh2 := Lib.hid hh2
        clear hr1 hh2
        have HN2 : Hid ((zs ++ xs.drop i).length = zs.length + (xs.length - i)) := Lib.hid (by rw [List.length_append, HD1.out])
        have Hr2 : Hid (∃ A3 C3 w3, (Builtin.append_ #[36, 36] 36 #[.slice A2 (zs.length + (xs.length - i)) C2, .slice (fromA b k d) (ys.length - k) (d - k)]).run Try.prog w2 = .ok (.slice A3 (zs.length + (xs.length - i) + (ys.length - k)) C3) w3 ∧ HH w w3 [] [⟨A3, C3, 3, ints (zs ++ xs.drop i ++ ys.drop k)⟩]) := Lib.hid (by
          obtain ⟨A3, C3, w3, h1, h2, h3, h4⟩ := run_append_many (P := Try.prog) w2 w.heap.size 36 36 36 3 i0 (.int .i64 0) 8 Try.underlying36 Try.underlying36 hi hz0 hz1 hz2 rfl A2 C2 (ints (zs ++ xs.drop i)) (Hh2.out.sl (k := 0) rfl) (fromA b k d) (d - k) (ints (ys.drop k)) ((HY.out.later Hh2.out.below).from Hyd.out) (ints_one _) (by rw [ints_length, ints_length, HD2.out, HN2.out]; omega) (by rw [ints_length, ints_length, HD2.out, HN2.out]; omega) Hh2.out.below.size
          rw [ints_length, ints_length, HD2.out, HN2.out] at h1
          refine ⟨A3, C3, w3, h1, ?_⟩
          have := Hh2.out.grow (k := 0) rfl h2 h3 h4
          simpa [setO, ints] using this)
        obtain ⟨A3, C3, w3, hr2, hh3⟩ := Hr2.out
        have Hr2 := Lib.hid hr2
        have Hh3 := Lib.hid hh3
        clear hr2 hh3
        have HL : Hid ((addL xs ys).length = zs.length + (xs.length - i) + (ys.length - k)) := Lib.hid (by rw [← Hz2.out, List.length_append, List.length_append, HD1.out, HD2.out])
        go_wp2_with (first
          | (refine wpList_from rfl 36 (.tmp 67) (.tmp 68) rfl Try.underlying36 hi hz1 a xs.length c i rfl rfl (by omega) ?_)
          | (refine wpList_append_run rfl (.tmp 66) (.tmp 69) #[36, 36] rfl (.slice A zs.length C) (.slice (fromA a i c) (xs.length - i) (c - i)) _ _ rfl rfl Hr1.out ?_)
          | (refine wpList_from rfl 36 (.tmp 72) (.tmp 73) rfl Try.underlying36 hi hz1 b ys.length d k rfl rfl (by omega) ?_)
          | (refine wpList_append_run rfl (.tmp 71) (.tmp 74) #[36, 36] rfl (.slice A2 (zs.length + (xs.length - i)) C2) (.slice (fromA b k d) (ys.length - k) (d - k)) _ _ rfl rfl Hr2.out ?_))
        go_ret
        refine ⟨A3, C3, ?_, ?_, Hh3.out.below⟩
        · rw [HL.out]; rfl
        · have := Hh3.out.sl (k := 0) rfl
          rw [Hz2.out] at this
          exact this
    · have Hz2 : Hid (zs ++ xs.drop i ++ ys.drop k = addL xs ys) := Lib.hid (by
        have h := Hz.out
        rw [show xs.drop i = [] from List.drop_eq_nil_of_le (by omega), addL_nil_left] at h; rw [show xs.drop i = [] from List.drop_eq_nil_of_le (by omega)]
        rw [← h]; simp)
      clear Hz
      have hL : zs.length + (xs.length - i) ≤ 4000000 := by omega
      have HD1 : Hid ((xs.drop i).length = xs.length - i) := Lib.hid List.length_drop
      have HD2 : Hid ((ys.drop k).length = ys.length - k) := Lib.hid List.length_drop
      have Hr1 : Hid (∃ A2 C2 w2, (Builtin.append_ #[36, 36] 36 #[.slice A zs.length C, .slice (fromA a i c) (xs.length - i) (c - i)]).run Try.prog wr = .ok (.slice A2 (zs.length + (xs.length - i)) C2) w2 ∧ HH w w2 [] [⟨A2, C2, 3, ints (zs ++ xs.drop i)⟩]) := Lib.hid (by
        obtain ⟨A2, C2, w2, h1, h2, h3, h4⟩ := run_append_many (P := Try.prog) wr w.heap.size 36 36 36 3 i0 (.int .i64 0) 8 Try.underlying36 Try.underlying36 hi hz0 hz1 hz2 rfl A C (ints zs) (Hh.out.sl (k := 0) rfl) (fromA a i c) (c - i) (ints (xs.drop i)) ((HX.out.later Hh.out.below).from Hxc.out) (ints_one _) (by rw [ints_length, ints_length, HD1.out]; omega) (by rw [ints_length, ints_length, HD1.out]; omega) Hh.out.below.size
        rw [ints_length, ints_length, HD1.out] at h1
        refine ⟨A2, C2, w2, h1, ?_⟩
        have := Hh.out.grow (k := 0) rfl h2 h3 h4
        simpa [setO, ints] using this)
      obtain ⟨A2, C2, w2, hr1, hh2⟩ := Hr1.out
      have Hr1 := Lib.hid hr1
      have Hh2 := Lib.hid hh2
      clear hr1 hh2
      have HN2 : Hid ((zs ++ xs.drop i).length = zs.length + (xs.length - i)) := Lib.hid (by rw [List.length_append, HD1.out])
      have Hr2 : Hid (∃ A3 C3 w3, (Builtin.append_ #[36, 36] 36 #[.slice A2 (zs.length + (xs.length - i)) C2, .slice (fromA b k d) (ys.length - k) (d - k)]).run Try.prog w2 = .ok (.slice A3 (zs.length + (xs.length - i) + (ys.length - k)) C3) w3 ∧ HH w w3 [] [⟨A3, C3, 3, ints (zs ++ xs.drop i ++ ys.drop k)⟩]) := Lib.hid (by
        obtain ⟨A3, C3, w3, h1, h2, h3, h4⟩ := run_append_many (P := Try.prog) w2 w.heap.size 36 36 36 3 i0 (.int .i64 0) 8 Try.underlying36 Try.underlying36 hi hz0 hz1 hz2 rfl A2 C2 (ints (zs ++ xs.drop i)) (Hh2.out.sl (k := 0) rfl) (fromA b k d) (d - k) (ints (ys.drop k)) ((HY.out.later Hh2.out.below).from Hyd.out) (ints_one _) (by rw [ints_length, ints_length, HD2.out, HN2.out]; omega) (by rw [ints_length, ints_length, HD2.out, HN2.out]; omega) Hh2.out.below.size
        rw [ints_length, ints_length, HD2.out, HN2.out] at h1
        refine ⟨A3, C3, w3, h1, ?_⟩
        have := Hh2.out.grow (k := 0) rfl h2 h3 h4
        simpa [setO, ints] using this)
      obtain ⟨A3, C3, w3, hr2, hh3⟩ := Hr2.out
      have Hr2 := Lib.hid hr2
      have Hh3 := Lib.hid hh3
      clear hr2 hh3
      have HL : Hid ((addL xs ys).length = zs.length + (xs.length - i) + (ys.length - k)) := Lib.hid (by rw [← Hz2.out, List.length_append, List.length_append, HD1.out, HD2.out])
      go_wp2_with (first
        | (refine wpList_from rfl 36 (.tmp 67) (.tmp 68) rfl Try.underlying36 hi hz1 a xs.length c i rfl rfl (by omega) ?_)
        | (refine wpList_append_run rfl (.tmp 66) (.tmp 69) #[36, 36] rfl (.slice A zs.length C) (.slice (fromA a i c) (xs.length - i) (c - i)) _ _ rfl rfl Hr1.out ?_)
        | (refine wpList_from rfl 36 (.tmp 72) (.tmp 73) rfl Try.underlying36 hi hz1 b ys.length d k rfl rfl (by omega) ?_)
        | (refine wpList_append_run rfl (.tmp 71) (.tmp 74) #[36, 36] rfl (.slice A2 (zs.length + (xs.length - i)) C2) (.slice (fromA b k d) (ys.length - k) (d - k)) _ _ rfl rfl Hr2.out ?_))
      go_ret
      refine ⟨A3, C3, ?_, ?_, Hh3.out.below⟩
      · rw [HL.out]; rfl
      · have := Hh3.out.sl (k := 0) rfl
        rw [Hz2.out] at this
        exact this
end Go.Proofs.Ytlgiponfcmeiiaa
