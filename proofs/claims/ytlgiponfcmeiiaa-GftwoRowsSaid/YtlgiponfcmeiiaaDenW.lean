/- Tables of bits that are read; the walk of the reference's Dense. -/
import Derived.Test.YtlgiponfcmeiiaaLawA
namespace Go.Proofs.Ytlgiponfcmeiiaa
open Go Go.RowKit
/-- A row of bits. -/
def bitsB (C x : Nat) : List Bool := (List.range C).map x.testBit
theorem bitsB_len (C x : Nat) : (bitsB C x).length = C := by simp [bitsB]
theorem bitsB_get {C x k : Nat} (h : k < C) : bth (bitsB C x) k = x.testBit k := by simp [bth, bitsB, h]
/-- Behind the address lie the rows of bits of these numbers. -/
def BTabAt (w : World) (a : Option Addr) (C : Nat) (xs : List Nat) : Prop :=
  ∀ (i : Nat) (x : Nat), xs[i]? = some x → ∃ b off a' c', a = some ⟨b, off, none⟩ ∧ w.cell? ⟨b, off + i, none⟩ = some (.slice a' C c') ∧ C ≤ c' ∧ VAt w a' (bools (bitsB C x))
theorem BTabAt.later {w w' : World} {a : Option Addr} {C : Nat} {xs : List Nat} (h : BTabAt w a C xs) (hb : Below w.heap.size w w') : BTabAt w' a C xs := fun i x hi => by
  obtain ⟨b, off, a', c', he, hc, hl, hr⟩ := h i x hi
  exact ⟨b, off, a', c', he, (hb.cell (p := ⟨b, off + i, none⟩) (World.block_lt_of_cell? w _ hc)).trans hc, hl, hr.later hb⟩
theorem BTabAt.rowAt {w : World} {a : Option Addr} {C : Nat} {xs : List Nat} (h : BTabAt w a C xs) {i x : Nat} (hi : xs[i]? = some x) :
    ∃ b off a' c', a = some ⟨b, off, none⟩ ∧ C ≤ c' ∧ ∀ W', Below w.heap.size w W' → W'.cell? ⟨b, off + i, none⟩ = some (.slice a' C c') ∧ VAt W' a' (bools (bitsB C x)) := by
  obtain ⟨b, off, a', c', he, hc, hl, hr⟩ := h i x hi
  exact ⟨b, off, a', c', he, hl, fun W' hb => ⟨(hb.cell (p := ⟨b, off + i, none⟩) (World.block_lt_of_cell? w _ hc)).trans hc, hr.later hb⟩⟩
theorem VAt.bits {w : World} {a : Option Addr} {C x : Nat} (h : VAt w a (bools (bitsB C x))) (hC : 0 < C) : ∃ b off, a = some ⟨b, off, none⟩ ∧ b < w.heap.size ∧ ∀ k, k < C → w.cell? ⟨b, off + k, none⟩ = some (.bool (x.testBit k)) := by
  obtain ⟨b, off, he, hb, hc⟩ := h.open (by rw [bools_length, bitsB_len]; exact hC)
  refine ⟨b, off, he, hb, fun k hk => ?_⟩
  have := hc k _ (bools_get (bitsB C x) k (by rw [bitsB_len]; exact hk))
  rwa [bitsB_get hk] at this
/-- The bits under way. -/
def dL (C : Nat) (l : List Int) : List Bool := (List.range C).map fun j : Nat => decide ((j : Int) ∈ l)
theorem dL_len (C : Nat) (l : List Int) : (dL C l).length = C := by simp [dL]
theorem dL_nil (C : Nat) : List.replicate C false = dL C [] := by
  apply List.ext_getElem
  · simp [dL]
  · intro i h1 h2; simp [dL]
theorem dL_all (C x : Nat) : dL C (rowOf C x) = bitsB C x := by
  unfold dL bitsB
  refine List.map_congr_left fun j hj => ?_
  have hjC := List.mem_range.1 hj
  rw [Bool.eq_iff_iff, decide_eq_true_eq, mem_rowOf, Int.toNat_natCast]
  exact ⟨fun h => h.2.2, fun h => ⟨by omega, by omega, h⟩⟩
theorem dL_set {C : Nat} (l : List Int) (cc : Nat) : (dL C l).set cc true = dL C (l ++ [(cc : Int)]) := by
  apply List.ext_getElem
  · simp [dL]
  · intro i h1 h2
    rw [List.getElem_set]
    by_cases e : cc = i
    · subst e; simp [dL]
    · rw [if_neg e]
      have : (i : Int) ≠ (cc : Int) := by omega
      simp [dL, this]
def bsl (C : Nat) (x : Nat × (Obj → Prop)) : Value := .slice (some ⟨x.1, 0, none⟩) C C
theorem btab_of {w0 w : World} {l : Kn} {A : Option Addr} {E C : Nat} {xs : List Nat} (h : HH w0 w l [⟨A, E, 52, l.map (bsl C)⟩]) (hl : l.length = xs.length) (hR : ∀ (m : Nat) (x : Nat × (Obj → Prop)), l[m]? = some x → x.2 = rowO 4 (bools (bitsB C (xs.getD m 0)))) : BTabAt w A C xs := by
  intro i x hi
  have hil := (List.getElem?_eq_some_iff.1 hi).1
  have hli := List.getElem?_eq_getElem (l := l) (i := i) (by omega)
  have hv : (l.map (bsl C))[i]? = some (bsl C l[i]) := by rw [List.getElem?_map, hli]; rfl
  obtain ⟨b, off, hA, hc⟩ := (h.sl (k := 0) rfl).at i _ hv
  obtain ⟨_, o, ho, hr⟩ := h.blk _ (List.mem_of_getElem? hli)
  have e := hR i _ hli
  rw [e, List.getD_eq_getElem?_getD, hi] at hr
  have hrow : Row w l[i].1 4 (bools (bitsB C x)) := by
    have hr : o = .cells (bools (bitsB C x)).toArray 4 (0, 0) := hr
    rw [hr] at ho; exact ho
  exact ⟨b, off, _, _, hA, hc, Nat.le_refl _, hrow.at⟩
set_option maxRecDepth 100000 in
set_option maxHeartbeats 4000000 in
theorem dense_any (C : Nat) (xs : List Nat) (hx : ∀ x ∈ xs, x < 2 ^ C) (hC : C ≤ 65536) (hR : xs.length ≤ 65536) (a : Option Addr) (c : Nat) (w : World) (hT : TabAt w a (tabN C xs)) :
    Calls Try.prog 18 #[.int .i64 (C : Int), .slice a xs.length c] w fun e w' => ∃ A E, e = .returned (.slice A xs.length E) ∧ BTabAt w' A C xs ∧ Below w.heap.size w w' := by
  have hmk := run_mk1 (T := 52) (z := .bool false) (bytes := 1) Try.underlying52 Try.info4 rfl C C (Nat.le_refl _) (by omega) (by omega)
  obtain ⟨i0, hi0, hz0, hz1, hz2⟩ := info_parts Try.info52
  have HT := Lib.hid hT
  have Hx := Lib.hid hx
  clear hT hx
  go_enter Try.func18, Try.ntmps18
  go_wp2_with fail
  go_loopg [6, 5] xs.length (fun g v s5 wr => ∃ (i : Nat) (A : Option Addr) (E : Nat) (bl : Kn), i ≤ xs.length ∧ g = xs.length - i ∧ v = .int .i64 i ∧ s5 = .slice A i E ∧ bl.length = i ∧ HH w wr bl [⟨A, E, 52, bl.map (bsl C)⟩] ∧ ∀ (m : Nat) (x : Nat × (Obj → Prop)), bl[m]? = some x → x.2 = rowO 4 (bools (bitsB C (xs.getD m 0))))
  case atStart => exact ⟨0, none, 0, [], Nat.zero_le _, rfl, rfl, rfl, rfl, (HH.start w).addNil 52, fun m x h => by simp at h⟩
  case round =>
    obtain ⟨i, A, E, bl, hi, rfl, rfl, rfl, hbl, hh, hb⟩ := hrel
    have Hh := Lib.hid hh
    have Hb := Lib.hid hb
    have Hbl := Lib.hid hbl
    clear hh hb hbl
    by_cases hil : i < xs.length
    · have H1 := Lib.hid (Hh.out.alloc (Array.replicate C (.bool false)) 4 rfl (vs := bools (dL C [])) (by rw [replicate_bools, dL_nil]))
      obtain ⟨b1, o1, a', c', rfl, _, hrow⟩ := HT.out.rowAt (tabN_get hil)
      have HI : Hid (∀ W', Below w.heap.size w W' → W'.cell? ⟨b1, o1 + i, none⟩ = some (.slice a' (rowOf C (xs.getD i 0)).length c') ∧ IntsAt W' a' (rowOf C (xs.getD i 0))) := Lib.hid hrow
      have HL : Hid (Asc C (rowOf C (xs.getD i 0))) := Lib.hid (rowOf_asc _ _)
      have HD : Hid (dL C (rowOf C (xs.getD i 0)) = bitsB C (xs.getD i 0)) := Lib.hid (dL_all _ _)
      have hrl : (rowOf C (xs.getD i 0)).length ≤ 65536 := Nat.le_trans (rowOf_len _ _) hC
      clear hrow
      generalize rowOf C (xs.getD i 0) = row at *
      obtain ⟨wa, hwa⟩ : ∃ x, x = wr.alloc (.cells (Array.replicate C (.bool false)) 4) := ⟨_, rfl⟩
      rw [← hwa] at H1
      go_wp2_with fail
      rw [← hwa]
      generalize wr.heap.size = t at *
      clear hwa Hh
      go_loopg [8] row.length (fun g v wr => ∃ j : Nat, j ≤ row.length ∧ g = row.length - j ∧ v = .int .i64 j ∧ HH w wr (bl ++ [(t, rowO 4 (bools (dL C (row.take j))))]) [⟨A, E, 52, bl.map (bsl C)⟩])
      case atStart => exact ⟨0, Nat.zero_le _, rfl, rfl, H1.out⟩
      case round =>
        obtain ⟨j, hj, rfl, rfl, hh⟩ := hrel
        have Hs := Lib.hid hh
        clear hh H1
        have h1 := (HI.out wr Hs.out.below).1
        by_cases hjl : j < row.length
        · obtain ⟨b2, o2, rfl, _, hcR⟩ := (HI.out wr Hs.out.below).2.open (by omega)
          have hcx := hcR j hjl
          have hxr := HL.out.2 _ (nth_mem row j hjl)
          obtain ⟨cc, hcc⟩ : ∃ cc : Nat, nth row j = (cc : Int) := ⟨(nth row j).toNat, by omega⟩
          have Htk : Hid (row.take (j + 1) = row.take j ++ [(cc : Int)]) := Lib.hid (by rw [List.take_succ_eq_append_getElem hjl, ← hcc]; simp [nth, hjl])
          rw [hcc] at hcx hxr
          have hcn : cc < C := by omega
          have hcl := Hs.out.bool (nthO_last _ _) cc (by rw [dL_len]; exact hcn)
          have hfr := Hs.out.frozen (nthO_last _ _) cc
          have HN := Lib.hid (Hs.out.setBool (nthO_last _ _) cc true)
          clear hcR hxr hcc
          generalize bth (dL C (row.take j)) cc = v0 at *
          go_wp2_with fail
          go_roundg (row.length - (j + 1))
          case measure => omega
          case rel =>
            refine ⟨j + 1, by omega, rfl, by go_num, ?_⟩
            have h := HN.out
            rw [setO_last, dL_set, ← Htk.out] at h
            exact h
        · obtain rfl : j = row.length := by omega
          rw [List.take_length] at Hs
          have Ha0 := Lib.hid (Hs.out.call ((Below.refl _ _).alloc (Nat.le_refl _) (.cells #[.slice (some ⟨t, 0, none⟩) C C] 52)))
          have Hc0 : Hid ((wr.alloc (.cells #[.slice (some ⟨t, 0, none⟩) C C] 52)).cell? ⟨wr.heap.size, 0, none⟩ = some (.slice (some ⟨t, 0, none⟩) C C)) := Lib.hid ((Row.new wr #[.slice (some ⟨t, 0, none⟩) C C] 52).cell 0)
          have Hl1 : Hid (w.heap.size ≤ (wr.alloc (.cells #[.slice (some ⟨t, 0, none⟩) C C] 52)).heap.size) := Lib.hid Ha0.out.below.size
          have Hn0 : Hid ((bl.map (bsl C)).length = i) := Lib.hid (by rw [List.length_map]; exact Hbl.out)
          go_wp2_with (with_reducible refine wpList_append_one rfl (.tmp 35) (.tmp 37) 34 rfl w.heap.size 52 i0 (.slice none 0 0) 24 Try.underlying34 hi0 hz0 hz1 hz2 rfl A i E (bl.map (bsl C)) rfl Hn0.out (Ha0.out.sl (k := 0) rfl) _ 1 (.slice (some ⟨t, 0, none⟩) C C) rfl Hc0.out rfl (by omega) (by omega) Hl1.out ?_; intro A2 e2 w2 hO2 hT2 hA2; have H2 := Lib.hid (Ha0.out.grow (k := 0) rfl hO2 hT2 hA2); clear hO2 hT2 hA2)
          go_roundg (xs.length - (i + 1))
          case measure => omega
          case rel =>
            refine ⟨i + 1, A2, e2, bl ++ [(t, rowO 4 (bools (dL C row)))], by omega, rfl, by go_num, rfl, by rw [List.length_append, Hbl.out]; rfl, ?_, fun m x h => ?_⟩
            · have h := H2.out
              rw [List.map_append]
              exact h
            · rcases Nat.lt_or_ge m bl.length with g | g
              · rw [List.getElem?_append_left g] at h
                exact Hb.out m x h
              · rw [List.getElem?_append_right g] at h
                cases hm : m - bl.length with
                | zero =>
                  rw [hm] at h
                  cases h
                  have hbl := Hbl.out
                  rw [show m = i by omega, ← HD.out]
                | succ m' => rw [hm] at h; simp at h
    · obtain rfl : i = xs.length := by omega
      have HF := Lib.hid (btab_of (C := C) Hh.out Hbl.out Hb.out)
      go_wp2_with fail
      go_ret
      exact ⟨A, E, rfl, HF.out, Hh.out.below⟩
end Go.Proofs.Ytlgiponfcmeiiaa
