/- The walk of quandle.Affine, the good way. -/
import Derived.Test.YtlgiponfcmeiiaaDoorAffW
namespace Go.Proofs.YtlgiponfcmeiiaaDoor
open Go Go.RowKit
def bsl (C : Nat) (x : Nat × (Obj → Prop)) : Value := .slice (some ⟨x.1, 0, none⟩) C C
/-- The cells of a table of which some rows are made. -/
def vsl (bl : Kn) (n : Nat) : List Value := bl.map (bsl n) ++ List.replicate (n - bl.length) (.slice none 0 0)
theorem vsl_nil (n : Nat) : vsl [] n = List.replicate n (.slice none 0 0) := by simp [vsl]
theorem vsl_len {bl : Kn} {n : Nat} (h : bl.length ≤ n) : (vsl bl n).length = n := by simp [vsl]; omega
theorem vsl_set {bl : Kn} {n : Nat} (h : bl.length < n) (b : Nat) (R : Obj → Prop) : (vsl bl n).set bl.length (.slice (some ⟨b, 0, none⟩) n n) = vsl (bl ++ [(b, R)]) n := by
  unfold vsl
  rw [List.set_append_right _ _ (by simp), List.length_map, Nat.sub_self, List.map_append, List.length_append, List.append_assoc]
  obtain ⟨k, hk⟩ : ∃ k, n - bl.length = k + 1 := ⟨n - bl.length - 1, by omega⟩
  rw [hk, List.replicate_succ, List.set_cons_zero, show n - (bl.length + [(b, R)].length) = k by simp; omega]
  rfl
theorem vsl_last {bl : Kn} {n : Nat} (b : Nat) (R : Obj → Prop) : (vsl (bl ++ [(b, R)]) n)[bl.length]? = some (.slice (some ⟨b, 0, none⟩) n n) := by
  unfold vsl
  rw [List.map_append, List.append_assoc, List.getElem?_append_right (by simp)]
  simp [bsl]
theorem vsl_nilAt {bl : Kn} {n : Nat} (h : bl.length < n) : (vsl bl n)[bl.length]? = some (.slice none 0 0) := by
  unfold vsl
  rw [List.getElem?_append_right (by simp)]
  simp [List.getElem?_replicate]; omega
theorem vsl_full {bl : Kn} {n : Nat} (h : bl.length = n) : vsl bl n = bl.map (bsl n) := by simp [vsl, h]
/-- A row of the affine table of which y entries are set. -/
def afP (n t x y : Nat) : List Int := (List.range n).map fun k => if k < y then ((afV n t x k : Nat) : Int) else 0
theorem afP_len (n t x y : Nat) : (afP n t x y).length = n := by simp [afP]
theorem afP_zero (n t x : Nat) : afP n t x 0 = List.replicate n 0 := by
  apply List.ext_getElem
  · simp [afP]
  · intro i h1 h2; simp [afP]
theorem afP_set {n t x y : Nat} (h : y < n) : (afP n t x y).set y ((afV n t x y : Nat) : Int) = afP n t x (y + 1) := by
  apply List.ext_getElem
  · simp [afP]
  · intro i h1 h2
    rw [List.getElem_set]
    simp only [afP, List.getElem_map, List.getElem_range]
    by_cases e : y = i
    · subst e; rw [if_pos rfl, if_pos (by omega)]
    · rw [if_neg e]
      by_cases g : i < y
      · rw [if_pos g, if_pos (by omega)]
      · rw [if_neg g, if_neg (by omega)]
theorem afP_all {n t x : Nat} (hx : x < n) : afP n t x n = (afT n t).getD x [] := by
  rw [afT_row n t x hx]
  exact List.map_congr_left fun k hk => by rw [if_pos (List.mem_range.1 hk)]
/-- The blocks of a list stand as told. -/
def BL (w : World) (l : Kn) : Prop := ∀ x ∈ l, ∃ o, w.heap[x.1]? = some o ∧ x.2 o
theorem bl_row {w : World} {l : Kn} (h : BL w l) {b : Nat} {E : TypeId} {vs : List Value} (hm : (b, rowO E vs) ∈ l) : Row w b E vs := by
  obtain ⟨o, ho, hr⟩ := h _ hm
  have hr : o = .cells vs.toArray E (0, 0) := hr
  rw [hr] at ho; exact ho
theorem tab_of {w : World} {tb n : Nat} {bl : Kn} {T : List (List Int)} (h : BL w ((tb, rowO 36 (bl.map (bsl n))) :: bl)) (hl : bl.length = T.length) (hT : ∀ (m : Nat), m < T.length → (T.getD m []).length = n)
    (hR : ∀ (m : Nat) (b : Nat × (Obj → Prop)), bl[m]? = some b → b.2 = rowO 3 (ints (T.getD m []))) : TabAt w (some ⟨tb, 0, none⟩) T := by
  intro i row hi
  have hil := (List.getElem?_eq_some_iff.1 hi).1
  have hli := List.getElem?_eq_getElem (l := bl) (i := i) (by omega)
  have hg : T.getD i [] = row := by rw [List.getD_eq_getElem?_getD, hi]; rfl
  have hn : row.length = n := by rw [← hg]; exact hT i hil
  have hc := (bl_row h List.mem_cons_self).cell i
  rw [List.getElem?_map, hli] at hc
  have e := hR i _ hli
  rw [hg] at e
  have hm : (bl[i].1, rowO 3 (ints row)) ∈ (tb, rowO 36 (bl.map (bsl n))) :: bl := by
    rw [← e]; exact List.mem_cons_of_mem _ (List.mem_of_getElem? hli)
  refine ⟨tb, 0, some ⟨bl[i].1, 0, none⟩, n, rfl, ?_, by omega, (bl_row h hm).at⟩
  rw [Nat.zero_add, hc, hn]
  rfl
/-- A table in blocks from B on. -/
def TabNew (B : Nat) (w : World) (a : Option Addr) (T : List (List Int)) : Prop := ∀ w2 : World, (∀ b, B ≤ b → w2.heap[b]? = w.heap[b]?) → TabAt w2 a T
theorem TabNew.at {B : Nat} {w : World} {a : Option Addr} {T : List (List Int)} (h : TabNew B w a T) : TabAt w a T := h w fun _ _ => rfl
theorem TabNew.mono {B B' : Nat} {w : World} {a : Option Addr} {T : List (List Int)} (h : TabNew B w a T) (hB : B' ≤ B) : TabNew B' w a T := fun w2 hk => h w2 fun b hb => hk b (by omega)
theorem TabNew.set {B : Nat} {w : World} {a : Option Addr} {T : List (List Int)} (h : TabNew B w a T) (x : Addr) (u : Value) (hx : x.block < B) : TabNew B (w.setCell x u) a T := fun w2 hk => h w2 fun b hb => by
  rw [hk b hb]
  exact Below.heap_setCell w x u b (by omega)
theorem tab_new {w0 w : World} {x0 : Nat × (Obj → Prop)} {tb n : Nat} {bl : Kn} {T : List (List Int)} (h : HH w0 w (x0 :: (tb, rowO 36 (bl.map (bsl n))) :: bl) []) (hl : bl.length = T.length) (hT : ∀ (m : Nat), m < T.length → (T.getD m []).length = n)
    (hR : ∀ (m : Nat) (b : Nat × (Obj → Prop)), bl[m]? = some b → b.2 = rowO 3 (ints (T.getD m []))) : TabNew w0.heap.size w (some ⟨tb, 0, none⟩) T := fun w2 hk =>
  tab_of (fun x hx => by
    obtain ⟨h1, o, h2, h3⟩ := h.blk x (List.mem_cons_of_mem _ hx)
    exact ⟨o, (hk _ h1).trans h2, h3⟩) hl hT hR
theorem wrapi_mid {x : Int} (h0 : -1000000 ≤ x) (h1 : x ≤ 1000000) : IntKind.i64.wrap x = x := by
  rw [IntKind.wrap_i64]; omega
theorem af_num (n t x y : Nat) (ht : t < n) (hx : x < n) (hy : y < n) (h30 : n ≤ 30) : ∃ m u A B V : Nat, IntKind.i64.wrap ((n : Int) + 1) = (m : Int) ∧ IntKind.i64.wrap ((m : Int) - t) = (u : Int) ∧ IntKind.i64.wrap ((t : Int) * x) = (A : Int) ∧ IntKind.i64.wrap ((u : Int) * y) = (B : Int) ∧ IntKind.i64.wrap ((A : Int) + B) = (V : Int) ∧ (V : Int).tmod n = ((afV n t x y : Nat) : Int) ∧ (V : Int) % n = ((afV n t x y : Nat) : Int) := by
  have h1 : t * x ≤ 30 * 30 := Nat.mul_le_mul (by omega) (by omega)
  have h2 : (n + 1 - t) * y ≤ 31 * 30 := Nat.mul_le_mul (by omega) (by omega)
  have h0 : (t : Int) * x = ((t * x : Nat) : Int) := (Int.natCast_mul t x).symm
  have h4 : ((n + 1 - t : Nat) : Int) * y = (((n + 1 - t) * y : Nat) : Int) := (Int.natCast_mul _ y).symm
  refine ⟨n + 1, n + 1 - t, t * x, (n + 1 - t) * y, t * x + (n + 1 - t) * y, ?_, ?_, ?_, ?_, ?_, ?_, ?_⟩
  · rw [wrapi_mid (by omega) (by omega)]; rfl
  · rw [wrapi_mid (by omega) (by omega)]; omega
  · rw [h0, wrapi_mid (by omega) (by omega)]
  · rw [h4, wrapi_mid (by omega) (by omega)]
  · rw [wrapi_mid (by omega) (by omega)]; exact (Int.natCast_add _ _).symm
  · rw [Int.tmod_eq_emod_of_nonneg (by omega)]; exact (Int.natCast_emod _ _).symm
  · exact (Int.natCast_emod _ _).symm
set_option maxRecDepth 100000 in
set_option maxHeartbeats 4000000 in
theorem aff_yes (n : Nat) (t : Int) (w : World) (h1 : 1 ≤ n) (h30 : n ≤ 30) (tt : Nat) (htt : tt = (t % (n : Int)).toNat) (hg : Nat.gcd tt n = 1) :
    Calls Tryd.prog 11 #[.int .i64 (n : Int), .int .i64 t] w fun e w' => ∃ A E, e = .returned (.tuple #[.agg #[.slice A n E], .int .i64 0]) ∧ TabNew w.heap.size w' A (afT n tt) ∧ Below w.heap.size w w' := by
  obtain ⟨W, hW⟩ : ∃ W, W = w.alloc (.cells #[.slice none 0 0] 25) := ⟨_, rfl⟩
  have h0 : HH w W [(w.heap.size, rowO 25 [.slice none 0 0])] [] := by rw [hW]; exact (HH.start w).alloc #[.slice none 0 0] 25 rfl rfl
  have H0 := Lib.hid h0
  clear h0
  have d1 : decide ((n : Int) < 1) = false := decide_eq_false (by omega)
  have d2 : decide (30 < (n : Int)) = false := decide_eq_false (by omega)
  have d3 : decide (n < 1) = false := decide_eq_false (by omega)
  have d4 : decide (30 < n) = false := decide_eq_false (by omega)
  obtain ⟨t1, t2, e1, e2, e3, e4, e5⟩ := t_parts t n h1 h30
  rw [← htt] at e3 e4 e5
  clear htt
  have HC : Hid (∀ W', Calls Tryd.prog 24 #[.int .i64 (tt : Int), .int .i64 (n : Int)] W' fun e w' => e = .returned (.int .i64 1) ∧ Below W'.heap.size W' w') := Lib.hid fun W' => by
    have h := gcd_any tt n W' (by omega) (by omega)
    rw [hg] at h
    exact h
  have hn0 : (n : Int) ≠ 0 := by omega
  have hn00 : n ≠ 0 := by omega
  have hmk := run_mk1 (T := 23) (z := .slice none 0 0) (bytes := 24) Tryd.underlying23 Tryd.info36 rfl n n (Nat.le_refl _) (by decide) (by omega)
  have hmk2 := run_mk1 (T := 36) (z := .int .i64 0) (bytes := 8) Tryd.underlying36 Tryd.info3 rfl n n (Nat.le_refl _) (by decide) (by omega)
  go_enter Tryd.func11, Tryd.ntmps11
  go_wp2_with fail
  rw [← hW]
  clear hW hg
  refine (HC.out W).mono ?_
  rintro e w1 ⟨rfl, hb⟩
  have H1 := Lib.hid (H0.out.call hb)
  clear hb H0 d1 d2 d3 d4 HC
  have H2 := Lib.hid (H1.out.alloc (Array.replicate n (.slice none 0 0)) 36 rfl (vs := vsl [] n) (by rw [Array.toList_replicate, vsl_nil]))
  go_wp2_with fail
  generalize w1.heap.size = tb at *
  clear e1 e2 e3 e4 hmk
  generalize hq0 : w.heap.size = q0 at *
  have Hq0 := Lib.hid hq0
  clear hq0
  go_loopg [32] n (fun g v wr => ∃ (x : Nat) (bl : Kn), x ≤ n ∧ g = n - x ∧ v = .int .i64 x ∧ bl.length = x ∧ HH w wr ((q0, rowO 25 [.slice none 0 0]) :: (tb, rowO 36 (vsl bl n)) :: bl) [] ∧ ∀ (m : Nat) (b : Nat × (Obj → Prop)), bl[m]? = some b → b.2 = rowO 3 (ints ((afT n tt).getD m [])))
  case atStart => exact ⟨0, [], Nat.zero_le _, rfl, rfl, rfl, H2.out, fun m b h => by simp at h⟩
  case round =>
    obtain ⟨x, bl, hx, rfl, rfl, hbl, hh, hb⟩ := hrel
    have Hh := Lib.hid hh
    have Hb := Lib.hid hb
    have Hbl := Lib.hid hbl
    clear hh hb hbl H2 H1
    by_cases hxn : x < n
    · have H3 := Lib.hid (Hh.out.alloc (Array.replicate n (.int .i64 0)) 3 rfl (vs := ints (afP n tt x 0)) (by rw [replicate_ints, afP_zero]))
      have hf1 := H3.out.frozen (k := 1) rfl x
      have hc1 := H3.out.cell (k := 1) (i := x) (v := .slice none 0 0) rfl (by rw [← Hbl.out]; exact vsl_nilAt (by rw [Hbl.out]; exact hxn))
      have H4 := Lib.hid (H3.out.set (k := 1) rfl x (.slice (some ⟨wr.heap.size, 0, none⟩) n n))
      go_wp2_with fail
      obtain ⟨v4, hv4⟩ : ∃ v, v = (wr.alloc (.cells (Array.replicate n (.int .i64 0)) 3)).setCell ⟨tb, x, none⟩ (.slice (some ⟨wr.heap.size, 0, none⟩) n n) := ⟨_, rfl⟩
      rw [← hv4]
      rw [← hv4] at H4
      generalize wr.heap.size = rb at *
      have H5 : Hid (HH w v4 (((q0, rowO 25 [.slice none 0 0]) :: (tb, rowO 36 (vsl (bl ++ [(rb, rowO 3 (ints (afP n tt x 0)))]) n)) :: bl) ++ [(rb, rowO 3 (ints (afP n tt x 0)))]) []) := Lib.hid (by
        have h := H4.out
        rw [← vsl_set (by rw [Hbl.out]; exact hxn), Hbl.out]
        exact h)
      clear hv4 hf1 hc1 H3 H4
      have Hxn := Lib.hid hxn
      go_loopg [41] n (fun g v wx => ∃ y : Nat, y ≤ n ∧ g = n - y ∧ v = .int .i64 y ∧ HH w wx (((q0, rowO 25 [.slice none 0 0]) :: (tb, rowO 36 (vsl (bl ++ [(rb, rowO 3 (ints (afP n tt x 0)))]) n)) :: bl) ++ [(rb, rowO 3 (ints (afP n tt x y)))]) [])
      case atStart => exact ⟨0, Nat.zero_le _, rfl, rfl, H5.out⟩
      case round =>
        obtain ⟨y, hy, rfl, rfl, hh⟩ := hrel
        have Hs := Lib.hid hh
        clear hh H5
        by_cases hyn : y < n
        · obtain ⟨gm, gu, gA, gB, V, g4, g5, g6, g7, g1, g2, g3⟩ := af_num n tt x y e5 Hxn.out hyn h30
          have hvl := afV_lt n tt x y (by omega)
          have HN := Lib.hid (Hs.out.setInt (nthO_last _ _) y ((afV n tt x y : Nat) : Int)).drew
          rw [afP_set hyn] at HN
          have hcR := Hs.out.int (nthO_last _ _) y (by rw [afP_len]; exact hyn)
          have hfR := Hs.out.frozen (nthO_last _ _) y
          have hct := Hs.out.cell (k := 1) (i := x) (v := .slice (some ⟨rb, 0, none⟩) n n) rfl (by rw [← Hbl.out]; exact vsl_last _ _)
          have Hct := Lib.hid (Hs.out.drew.cell (k := 1) (i := x) (v := .slice (some ⟨rb, 0, none⟩) n n) rfl (by rw [← Hbl.out]; exact vsl_last _ _))
          generalize afV n tt x y = af at *
          generalize nth (afP n tt x y) y = v0 at *
          go_wp2_with fail
          go_region_held3 (fun w' => w'.cell? ⟨tb, x, none⟩ = some (.slice (some ⟨rb, 0, none⟩) n n))
            (first
              | exact Hct.out
              | exact (HN.out.cell (k := 1) (i := x) (v := .slice (some ⟨rb, 0, none⟩) n n) (by rw [setO_last]; rfl) (by rw [← Hbl.out]; exact vsl_last _ _)))
            (fail)
          clear hcR hfR hct g1 g2 g3 g4 g5 g6 g7
          go_wp2_with fail
          go_roundg (n - (y + 1))
          case measure => omega
          case rel => exact ⟨y + 1, by omega, rfl, by go_num, by
            have h := HN.out
            rw [setO_last] at h
            exact h⟩
        · obtain rfl : y = n := by omega
          go_wp2_with fail
          go_roundg (y - (x + 1))
          case measure => omega
          case rel => exact ⟨x + 1, bl ++ [(rb, rowO 3 (ints (afP y tt x y)))], by omega, rfl, by go_num, by rw [List.length_append, Hbl.out]; rfl, by
            have h := Hs.out
            have e : vsl (bl ++ [(rb, rowO 3 (ints (afP y tt x y)))]) y = vsl (bl ++ [(rb, rowO 3 (ints (afP y tt x 0)))]) y := by simp [vsl, bsl]
            rw [e]
            exact h, fun m b h => by
            rcases Nat.lt_or_ge m bl.length with g | g
            · rw [List.getElem?_append_left g] at h
              exact Hb.out m b h
            · rw [List.getElem?_append_right g] at h
              cases hm : m - bl.length with
              | zero =>
                rw [hm] at h
                cases h
                have hbl := Hbl.out
                rw [show m = x by omega, ← afP_all Hxn.out]
              | succ m' => rw [hm] at h; simp at h⟩
    · obtain rfl : x = n := by omega
      have hc0 := Hh.out.cell (k := 0) (i := 0) rfl rfl
      have hf0 := Hh.out.frozen (k := 0) rfl 0
      have H9 := Hh.out.set (k := 0) rfl 0 (.slice (some ⟨tb, 0, none⟩) x x)
      have hF0 := H9.cell (k := 0) (i := 0) rfl rfl
      have Hfin := Lib.hid H9
      clear H9
      go_wp2_with fail
      refine bodyPost_ret (v := .tuple #[.agg #[.slice (some ⟨tb, 0, none⟩) x x], .int .i64 0]) (by simp [results, Tryd.results11, go_sem, hF0]) rfl ?_
      refine ⟨_, _, rfl, ?_, Hfin.out.below⟩
      have h := Hfin.out
      rw [vsl_full Hbl.out] at h
      exact tab_new h (by rw [afT_len]; exact Hbl.out) (fun m hm => by rw [afT_len] at hm; rw [afT_row _ _ _ hm]; simp) Hb.out
end Go.Proofs.YtlgiponfcmeiiaaDoor
