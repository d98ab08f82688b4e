/- The walk of the search within quandle.Orbits. -/
import Derived.Test.YtlgiponfcmeiiaaDoorOrbP
namespace Go.Proofs.YtlgiponfcmeiiaaDoor
open Go Go.RowKit
abbrev natI (O : List Nat) : List Int := O.map fun y : Nat => (y : Int)
def fnV (q1 s ob p : Nat) : Value := .func (.func 29) #[] #[.pointer (some ⟨s, 0, none⟩), .pointer (some ⟨ob, 0, none⟩), .pointer (some ⟨q1, 0, none⟩), .pointer (some ⟨p, 0, none⟩)]
def knC (b o n c q1 s ob p : Nat) (S : List Bool) (A : Option Addr) (m E : Nat) : Kn :=
  [(q1, rowO 25 [.slice (some ⟨b, o, none⟩) n c]), (s, rowO 49 (bools S)), (ob, rowO 36 [.slice A m E]), (p, rowO 50 [fnV q1 s ob p])]
/-- What a search asks and leaves. -/
def Coll (w0 : World) (n b o : Nat) (f : Nat → Nat → Nat) (c q1 s ob p : Nat) (ss : List SlO) (m : Nat) : Prop :=
  ∀ (x : Nat) (S : List Bool) (O : List Nat) (A : Option Addr) (E : Nat) (w : World), x < n → S.length = 30 → Fuel S n m → Old S O n →
    HH w0 w (knC b o n c q1 s ob p S A O.length E) (ss ++ [⟨A, E, 3, ints (natI O)⟩]) →
    Calls Tryd.prog 29 #[.int .i64 x, .pointer (some ⟨s, 0, none⟩), .pointer (some ⟨ob, 0, none⟩), .pointer (some ⟨q1, 0, none⟩), .pointer (some ⟨p, 0, none⟩)] w
      fun e w' => e = .returned (.tuple #[]) ∧ ∃ S' N A' E', S'.length = 30 ∧ Post f n x S S' N ∧ HH w0 w' (knC b o n c q1 s ob p S' A' (O ++ N).length E') (ss ++ [⟨A', E', 3, ints (natI (O ++ N))⟩])
set_option maxRecDepth 100000 in
set_option maxHeartbeats 4000000 in
theorem coll_seen (w0 : World) (n b o c q1 s ob p : Nat) (ss : List SlO) (hn : n ≤ 30) (x : Nat) (S : List Bool) (O : List Nat) (A : Option Addr) (E : Nat) (w : World) (hx : x < n) (hl : S.length = 30) (hs : bth S x = true)
    (hh : HH w0 w (knC b o n c q1 s ob p S A O.length E) (ss ++ [⟨A, E, 3, ints (natI O)⟩])) :
    Calls Tryd.prog 29 #[.int .i64 x, .pointer (some ⟨s, 0, none⟩), .pointer (some ⟨ob, 0, none⟩), .pointer (some ⟨q1, 0, none⟩), .pointer (some ⟨p, 0, none⟩)] w
      fun e w' => e = .returned (.tuple #[]) ∧ w' = w := by
  have hcl := hh.bool (k := 1) rfl x (by omega)
  rw [hs] at hcl
  have h30 : x < 30 := by omega
  clear hh hs
  go_enter Tryd.func29, Tryd.ntmps29
  go_wp2_with fail
  refine bodyPost_ret (results_none rfl _ _ _) rfl ?_
  exact ⟨rfl, rfl⟩
set_option maxRecDepth 100000 in
set_option maxHeartbeats 4000000 in
theorem coll_any (w0 : World) (b o : Nat) (P Q C : Nat → Nat) (n : Nat) (f : Nat → Nat → Nat) (c q1 s ob p : Nat) (ss : List SlO) (hn : n ≤ 30) (hG : Grd w0 b o P Q C n f) : ∀ m, Coll w0 n b o f c q1 s ob p ss m := by
  intro m
  induction m with
  | zero =>
    intro x S O A E w hx hl hF _ hh
    have hs : bth S x = true := Classical.byContradiction fun h => by have := fuel_pos hF hx h; omega
    refine (coll_seen w0 n b o c q1 s ob p ss hn x S O A E w hx hl hs hh).mono ?_
    rintro e w' ⟨rfl, rfl⟩
    exact ⟨rfl, S, [], A, E, hl, post_seen hs, by rw [List.append_nil]; exact hh⟩
  | succ m ih =>
    intro x S O A E w hx hl hF hO hh
    by_cases hs : bth S x = true
    · refine (coll_seen w0 n b o c q1 s ob p ss hn x S O A E w hx hl hs hh).mono ?_
      rintro e w' ⟨rfl, rfl⟩
      exact ⟨rfl, S, [], A, E, hl, post_seen hs, by rw [List.append_nil]; exact hh⟩
    have HG := Lib.hid hG
    have HF := Lib.hid hF
    have HO := Lib.hid hO
    have Hns := Lib.hid hs
    have Ih := Lib.hid ih
    have Hl := Lib.hid hl
    have hOl : O.length ≤ n := old_len hO
    have hcl := hh.bool (k := 1) rfl x (by omega)
    rw [Bool.eq_false_iff.2 hs] at hcl
    have hfr := hh.frozen (k := 1) rfl x
    have h30 : x < 30 := by omega
    have H0 := Lib.hid hh
    have HM := Lib.hid (mid_start (f := f) hx (by omega) hs)
    clear hG hF hO hs ih hl hh
    have H1 : Hid (HH w0 (w.setCell ⟨s, x, none⟩ (.bool true)) (knC b o n c q1 s ob p (S.set x true) A O.length E) (ss ++ [⟨A, E, 3, ints (natI O)⟩])) := Lib.hid (H0.out.setBool (k := 1) rfl x true)
    have hcA := H1.out.cell (k := 2) (i := 0) rfl rfl
    obtain ⟨i0, hi0, hz0, hz1, hz2⟩ := info_parts Tryd.info3
    have Hn0 : Hid ((ints (natI O)).length = O.length) := Lib.hid (by rw [ints_length, List.length_map])
    have Ha0 := Lib.hid (H1.out.call ((Below.refl _ _).alloc (Nat.le_refl _) (.cells #[.int .i64 (x : Int)] 3)))
    have Hc0 : Hid (((w.setCell ⟨s, x, none⟩ (.bool true)).alloc (.cells #[.int .i64 (x : Int)] 3)).cell? ⟨(w.setCell ⟨s, x, none⟩ (.bool true)).heap.size, 0, none⟩ = some (.int .i64 (x : Int))) := Lib.hid ((Row.new _ #[.int .i64 (x : Int)] 3).cell 0)
    have Hl1 : Hid (w0.heap.size ≤ ((w.setCell ⟨s, x, none⟩ (.bool true)).alloc (.cells #[.int .i64 (x : Int)] 3)).heap.size) := Lib.hid Ha0.out.below.size
    have hsz : (w.setCell ⟨s, x, none⟩ (.bool true)).heap.size = w.heap.size := by simp
    rw [hsz] at Hc0
    clear hsz H0 H1
    go_enter Tryd.func29, Tryd.ntmps29
    go_wp2_with (with_reducible refine wpList_append_one rfl (.tmp 13) (.tmp 15) 36 rfl w0.heap.size 3 i0 (.int .i64 0) 8 Tryd.underlying36 hi0 hz0 hz1 hz2 rfl A O.length E (ints (natI O)) rfl Hn0.out (Ha0.out.sl (nthO_last _ _)) _ 1 (.int .i64 (x : Int)) rfl Hc0.out rfl (by omega) (by omega) Hl1.out ?_; intro A3 e3 w2 hO2 hT2 hA2; have H2 := Lib.hid (Ha0.out.grow (nthO_last _ _) hO2 hT2 hA2); have hf2 := H2.out.frozen (k := 2) rfl 0; have hcB := H2.out.cell (k := 2) (i := 0) rfl rfl; have H3 := Lib.hid (H2.out.set (k := 2) rfl 0 (.slice A3 (O.length + 1) e3)); have hcT := H3.out.cell (k := 0) (i := 0) rfl rfl; have h1 := (HG.out.later H3.out.below).row x hx; clear hO2 hT2 hA2)
    have H4 : Hid (HH w0 (w2.setCell ⟨ob, 0, none⟩ (.slice A3 (O.length + 1) e3)) (knC b o n c q1 s ob p (S.set x true) A3 (O ++ [x]).length e3) (ss ++ [⟨A3, e3, 3, ints (natI (O ++ [x]))⟩])) := Lib.hid (by
      have h := H3.out
      rw [setO_last, ints_snoc] at h
      rw [List.length_append, natI, List.map_append]
      exact h)
    generalize w2.setCell ⟨ob, 0, none⟩ (.slice A3 (O.length + 1) e3) = v3 at *
    clear hcl hfr hcA Hc0 Ha0 Hl1 Hn0 H2 H3 hf2 hcB hcT h1 hi0 hz0 hz1 hz2
    have HL : Hid (∀ S', (∀ v, bth S v = true → bth S' v = true) → bth S' x = true → Fuel S' n m) := Lib.hid fun S' up h => fuel_next HF.out hx Hns.out up h
    go_loopg [23] n (fun g v wr => ∃ i S' N A' E', i ≤ n ∧ g = n - i ∧ v = .int .i64 (i : Nat) ∧ S'.length = 30 ∧ Mid f n x S S' N i ∧ HH w0 wr (knC b o n c q1 s ob p S' A' (O ++ N).length E') (ss ++ [⟨A', E', 3, ints (natI (O ++ N))⟩]))
    case atStart => exact ⟨0, _, _, A3, e3, Nat.zero_le _, rfl, rfl, by rw [List.length_set]; exact Hl.out, HM.out, H4.out⟩
    case round =>
      obtain ⟨i, S', N, A', E', hi, rfl, rfl, hl', hm', hh⟩ := hrel
      have Hl' := Lib.hid hl'
      have Hm' := Lib.hid hm'
      have Hh := Lib.hid hh
      clear hl' hm' hh H4 HM
      by_cases hin : i < n
      · have h2 := (HG.out.later Hh.out.below).el x i hx hin
        have hcF : wr.cell? ⟨p, 0, none⟩ = some (.func (.func 29) #[] #[.pointer (some ⟨s, 0, none⟩), .pointer (some ⟨ob, 0, none⟩), .pointer (some ⟨q1, 0, none⟩), .pointer (some ⟨p, 0, none⟩)]) := Hh.out.cell (k := 3) (i := 0) rfl rfl
        have hlt := HG.out.lt x i hx hin
        have HI := Lib.hid (Ih.out (f x i) S' (O ++ N) A' E' wr hlt Hl'.out (HL.out S' (fun v hv => (Hm'.out.1 v).2 (.inl hv)) ((Hm'.out.1 x).2 (.inr Hm'.out.2.2.2.1))) (old_add HO.out Hm'.out.1 Hm'.out.2.1 fun v hv => ⟨(Hm'.out.2.2.1 v hv).1, (Hm'.out.2.2.1 v hv).2.1⟩) Hh.out)
        go_wp2_with fail
        refine HI.out.mono ?_
        rintro e w4 ⟨rfl, S2, N2, A2, E2, hl2, hp2, hh2⟩
        have Hl2 := Lib.hid hl2
        have Hm2 := Lib.hid (mid_step Hm'.out hin hp2)
        have Hh2 := Lib.hid hh2
        clear hl2 hp2 hh2
        go_wp2_with fail
        go_roundg (n - (i + 1))
        case measure => omega
        case rel => exact ⟨i + 1, S2, N ++ N2, A2, E2, by omega, rfl, by go_num, Hl2.out, Hm2.out, by rw [← List.append_assoc]; exact Hh2.out⟩
      · obtain rfl : i = n := by omega
        go_wp2_with fail
        refine bodyPost_end (results_none rfl _ _ _) rfl ?_
        exact ⟨rfl, S', N, A', E', Hl'.out, mid_end Hm'.out, Hh.out⟩
end Go.Proofs.YtlgiponfcmeiiaaDoor
