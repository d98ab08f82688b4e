/- The reference: Less, Numbering. Appends at a step of a region that draws its order. The reference: From, the code from a crossing. -/
import Derived.WalkKit
import Derived.WalkSpells
import Derived.WalkLawsBesides
import Derived.Deep.AppendSrc
import Derived.Deep.LoopGhost
import Derived.Deep.QuietTactic
import Derived.Deep.RegionWith
import Derived.Deep.DeepMust
import Derived.Deep.DeepFit
import Derived.BigQuiet
import Derived.Lib.Hide
import Derived.Outline
import Derived.Test.YtmhhjchnjaefhaaDoorProg
import Derived.Deep.Matrix
import Derived.Deep.DeepCutAuto
import Derived.Deep.RegionLaw
import Derived.Deep.RegionHeld3
import Derived.Lib.SliceRun
import Derived.Shelf.Strings.Builder1
import Derived.Shelf.Small.Wraps
import Derived.Shelf.Strings.BuilderF
import Derived.Shelf.Strings.BuilderK
import Derived.Shelf.Strconv.Itoa0
import Derived.Shelf.Strconv.Itoa1
import Derived.Shelf.LaysM
import Derived.Shelf.Strconv.Itoa2
import Derived.Shelf.Strconv.Itoa3
import Derived.Shelf.Slices.Equal
import Derived.Ground.Names2Prog
import Derived.Shelf.Slices.Clone
import Derived.Shelf.Slices.SearchI
import Derived.Shelf.Slices.Empties2
import Derived.Ground.SlgnProg
import Derived.Shelf.SlicesE.Clone
import Derived.Sort.OwnSortedInts
import Derived.Shelf.Small.Bits
import Derived.Shelf.Sort.Plain
import Derived.Shelf.Slices.Turned
import Derived.Shelf.Slices.CompactI
import Derived.Shelf.Slices.Cells
import Derived.Shelf.Slices.In.SortNone
import Derived.Lib.AppendZeros
import Derived.Deep.RegionHeld
import Derived.Test.YtmhhjchnjaefhaaDoorTAa
import Derived.Test.YtmhhjchnjaefhaaDoorTAb
import Derived.Test.YtmhhjchnjaefhaaDoorTAc
import Derived.Test.YtmhhjchnjaefhaaDoorTAd
import Derived.Test.YtmhhjchnjaefhaaDoorTAe
import Derived.Test.YtmhhjchnjaefhaaDoorTAf
import Derived.Test.YtmhhjchnjaefhaaDoorTAg
import Derived.Test.YtmhhjchnjaefhaaDoorTAh
import Derived.Test.YtmhhjchnjaefhaaDoorTAi
import Derived.Test.YtmhhjchnjaefhaaDoorTAj
import Derived.Test.YtmhhjchnjaefhaaDoorTAk
import Derived.Test.YtmhhjchnjaefhaaDoorTAl
import Derived.Test.YtmhhjchnjaefhaaDoorTAm
import Derived.Test.YtmhhjchnjaefhaaDoorTAn
import Derived.Test.YtmhhjchnjaefhaaDoorTAo
import Derived.Test.YtmhhjchnjaefhaaDoorTAp
import Derived.Test.YtmhhjchnjaefhaaDoorTAq
namespace Go.Proofs.YtmhhjchnjaefhaaDoor
open Go Go.RowKit
theorem cmpL_same {xs ys : List Int} : ∀ k, k ≤ xs.length → k ≤ ys.length → (∀ j, j < k → nth xs j = nth ys j) → cmpL xs ys = cmpL (xs.drop k) (ys.drop k)
  | 0, _, _, _ => by rw [List.drop_zero, List.drop_zero]
  | k + 1, h1, h2, h => by
    rw [cmpL_same k (by omega) (by omega) fun j hj => h j (by omega), cmpL_drop (by omega) (by omega), if_pos (cmp3_zero.2 (h k (by omega)))]
theorem less_at {xs ys : List Int} (hl : xs.length = ys.length) {k : Nat} (hk : k < xs.length) (h : ∀ j, j < k → nth xs j = nth ys j) (hne : nth xs k ≠ nth ys k) : lessB xs ys = decide (nth xs k < nth ys k) := by
  unfold lessB
  rw [if_pos hl, cmpL_same k (by omega) (by omega) h, cmpL_drop hk (by omega), if_neg (fun e => hne (cmp3_zero.1 e))]
  unfold cmp3
  by_cases g : nth xs k < nth ys k
  · rw [if_pos g, decide_eq_true g]; rfl
  · rw [if_neg g, if_pos (by omega), decide_eq_false g]; rfl
theorem less_eq {xs ys : List Int} (hl : xs.length = ys.length) (h : ∀ j, j < xs.length → nth xs j = nth ys j) : lessB xs ys = false := by
  unfold lessB
  rw [if_pos hl, list_ext_nth hl h, cmpL_zero.2 rfl]; rfl
set_option maxRecDepth 100000 in
set_option maxHeartbeats 2000000 in
theorem less_any (xs ys : List Int) (a b : Option Addr) (c d : Nat) (w : World) (hx : xs.length ≤ 1000000000) (hA : IntsAt w a xs) (hB : IntsAt w b ys) :
    Calls Tryd.prog 71 #[.slice a xs.length c, .slice b ys.length d] w fun e w' => e = .returned (.bool (lessB xs ys)) ∧ Below w.heap.size w w' := by
  by_cases hl : xs.length = ys.length
  · have d1 : ((xs.length : Int) != (ys.length : Int)) = false := by rw [hl]; simp
    have hl1 : xs.length ≤ ys.length := by omega
    have HA := Lib.hid hA
    have HB := Lib.hid hB
    have Hl := Lib.hid hl
    clear hl hA hB
    go_enter Tryd.func71, Tryd.ntmps71
    go_wp2_with fail
    go_loopg [5] xs.length (fun g i wr => ∃ k q : Nat, k ≤ xs.length ∧ g = xs.length - k ∧ i = .int .i64 k ∧ wr = w.drewN q ∧ ∀ j, j < k → nth xs j = nth ys j)
    case atStart => exact ⟨0, 0, Nat.zero_le _, rfl, rfl, rfl, fun j hj => by omega⟩
    case round =>
      obtain ⟨k, q, hk, rfl, rfl, rfl, he⟩ := hrel
      have He := Lib.hid he
      clear he
      by_cases hlt : k < xs.length
      · obtain ⟨ba, oa, rfl, _, hca⟩ := HA.out.open (by omega)
        obtain ⟨bb, ob, rfl, _, hcb⟩ := HB.out.open (by have := Hl.out; omega)
        have h1 := hca k hlt
        have h2 := hcb k (by have := Hl.out; omega)
        clear hca hcb
        by_cases heq : nth xs k = nth ys k
        · have t1 : (nth xs k != nth ys k) = false := by rw [heq]; simp
          have Heq := Lib.hid heq
          clear heq
          go_wp2_with fail
          go_quiet (fail)
          go_wp2_with fail
          go_roundg (xs.length - (k + 1))
          case measure => omega
          case rel =>
            refine ⟨k + 1, q + nq, by omega, rfl, by go_num, rfl, fun j hj => ?_⟩
            rcases Nat.lt_or_ge j k with h | h
            · exact He.out j h
            · obtain rfl : j = k := by omega
              exact Heq.out
        · have t1 : (nth xs k != nth ys k) = true := by simpa using heq
          have Hf := Lib.hid (less_at Hl.out hlt He.out heq)
          clear heq
          go_wp2_with fail
          go_quiet (fail)
          go_wp2_with fail
          go_quiet (fail)
          go_wp2_with fail
          go_ret
          rw [Hf.out]
          exact ⟨rfl, below_drewNN (below_drewNN (below_drewNN (Below.refl _ _) _) _) _⟩
      · obtain rfl : k = xs.length := by omega
        have Hf := Lib.hid (less_eq Hl.out He.out)
        go_wp2_with fail
        go_ret
        rw [Hf.out]
        exact ⟨rfl, below_drewNN (Below.refl _ _) _⟩
  · have d1 : ((xs.length : Int) != (ys.length : Int)) = true := by rw [bne_iff_ne]; omega
    have hf : lessB xs ys = decide (xs.length < ys.length) := by
      unfold lessB
      rw [if_neg hl]
    rw [hf]
    clear hl hf hA hB
    go_enter Tryd.func71, Tryd.ntmps71
    go_wp2_with fail
    go_ret
    exact ⟨rfl, Below.refl _ _⟩
set_option maxRecDepth 100000 in
set_option maxHeartbeats 1000000 in
theorem numbering_any (M : List Int) (n r : Nat) (aM : Option Addr) (cM : Nat) (w : World) (hfw : n ≤ 64) (hl : M.length = 4 * n) (hmt : ∀ x, x < 4 * n → mt M x < 4 * n) (hmr : ∀ x, x < 4 * n → nth M x = (mt M x : Int)) (hr : r < n) (hM : IntsAt w aM M) :
    Calls Tryd.prog 47 #[.slice aM M.length cM, .int .i64 (r : Int)] w fun e w' => ∃ A C, e = .returned (.slice A (ordL M r n).length C) ∧ Own w' w.heap.size 3 A C (ints (nats (ordL M r n))) ∧ Below w.heap.size w w' := by
  have HMT := Lib.hid hmt
  have HMR := Lib.hid hmr
  have HM := Lib.hid hM
  have HMl := Lib.hid hl
  have Hrn := Lib.hid hr
  obtain ⟨i0, hi0, hz0, hz1, hz2⟩ := info_parts Tryd.info3
  have H0 := Lib.hid ((HH.start w).addSl (s := []) ((Below.refl _ _).alloc (Nat.le_refl _) (.cells #[.int .i64 (r : Int)] 3)) (((Row.new w #[.int .i64 (r : Int)] 3).own (Nat.le_refl _))))
  have HIn : Hid (∀ (a : Option Addr) (c : Nat) (G : List Nat) (x : Nat) W', G.length ≤ 1000 → IntsAt W' a (nats G) → Calls Tryd.prog 50 #[.slice a G.length c, .int .i64 (x : Int)] W' fun e w' => e = .returned (.bool (decide (x ∈ G))) ∧ w' = W') := Lib.hid fun a c G x W' h1 h2 => in_nats a c G x W' (by omega) h2
  have hN1 : 4 * n ≤ M.length := by omega
  have hN2 : M.length ≤ 4 * n := by omega
  clear hmt hmr hl hM
  go_enter Tryd.func47, Tryd.ntmps47
  go_wp2_with fail
  go_loopg [6, 5] (n + 1) (fun g v q wr => ∃ (i : Nat) (os : List Nat) (A : Option Addr) (C : Nat), i ≤ os.length ∧ os.length ≤ n ∧ g = n + 1 - i ∧ v = .int .i64 (i : Int) ∧ q = .slice A os.length C ∧ Hid (os = ordTo M r i) ∧ HH w wr [] [⟨A, C, 3, ints (nats os)⟩])
  case atStart =>
    refine ⟨0, [r], _, 1, Nat.zero_le _, by simp; omega, rfl, rfl, rfl, Lib.hid rfl, ?_⟩
    have h := H0.out
    simpa [nats, ints] using h
  case round =>
    obtain ⟨i, os, A, C, hi, hol, rfl, rfl, rfl, Hos, hh⟩ := hrel
    have Hh := Lib.hid hh
    clear hh H0
    by_cases hio : i < os.length
    · obtain ⟨b, hb⟩ : ∃ b, b = os.getD i 0 := ⟨_, rfl⟩
      have Hb := Lib.hid hb
      have hbc : b < n := by
        rw [hb, Hos.out]
        rw [Hos.out] at hio
        exact ordTo_lt HMT.out Hrn.out i _ (by rw [List.getD_eq_getElem?_getD, List.getElem?_eq_getElem hio]; exact List.getElem_mem hio)
      have Hbp : Hid (os <+: os ∧ os.getD i 0 = b) := Lib.hid ⟨List.prefix_refl _, hb.symm⟩
      clear hb
      go_wp2_with fail
      go_loopg [7, 5] 4 (fun g v q wr => ∃ (k : Nat) (os2 : List Nat) (A : Option Addr) (C : Nat), k ≤ 4 ∧ g = 4 - k ∧ v = .int .i64 (k : Int) ∧ q = .slice A os2.length C ∧ os2.length ≤ n ∧ Hid (os2 = ordRow M b k os) ∧ Hid (os <+: os2) ∧ HH w wr [] [⟨A, C, 3, ints (nats os2)⟩])
      case atStart => exact ⟨0, os, A, C, by omega, rfl, rfl, rfl, hol, Lib.hid rfl, Lib.hid (List.prefix_refl _), Hh.out⟩
      case round =>
        obtain ⟨k, os2, A2, C2, hk, rfl, rfl, rfl, hol2, Hos2, Hpre, hh⟩ := hrel
        replace Hh := Lib.hid hh
        clear hh
        by_cases hk4 : k < 4
        · have hk5 : 4 * b + k < 4 * n := by omega
          have hml := HMT.out (4 * b + k) hk5
          have hmv := HMR.out (4 * b + k) hk5
          obtain ⟨m, hm⟩ : ∃ m, m = mt M (4 * b + k) := ⟨_, rfl⟩
          have Hm := Lib.hid hm
          rw [← hm] at hml hmv
          clear hm
          have hi2 : i < os2.length := Nat.lt_of_lt_of_le hio Hpre.out.length_le
          obtain ⟨bo, oo, rfl, _, _, hcR, _⟩ := (Hh.out.sl (k := 0) rfl).open (by show 0 < (ints (nats os2)).length; rw [natsv_len]; omega)
          have hc0 : wr.cell? ⟨bo, oo + i, none⟩ = some (.int .i64 (b : Int)) := hcR i _ (by
            show (ints (nats os2))[i]? = _
            have e : os2.getD i 0 = b := by rw [pre_getD Hpre.out hio]; exact Hb.out.symm
            unfold ints nats
            rw [List.getElem?_map, List.getElem?_map, getD_some (d := 0) hi2, e]; rfl)
          clear hcR
          obtain ⟨bM, oM, e, _, hcM⟩ := (Hh.out.came HM.out).open (by omega)
          subst e
          have hcm := hcM (4 * b + k) (by omega)
          rw [hmv] at hcm
          clear hcM hmv
          have hm4 : m / 4 < n := by omega
          have Hin := Lib.hid (HIn.out (some ⟨bo, oo, none⟩) C2 os2 (m / 4) wr (by omega) (Hh.out.sl (k := 0) rfl).ints)
          by_cases hin : m / 4 ∈ os2
          · have Hrow : Hid (os2 = ordRow M b (k + 1) os) := Lib.hid (by rw [ordRow, ← Hos2.out, ← Hm.out, addN, if_pos hin])
            rw [decide_eq_true hin] at Hin
            clear hin
            go_wp2_with fail
            refine Hin.out.mono ?_
            rintro e w1 ⟨rfl, rfl⟩
            go_wp2_with fail
            go_roundg (4 - (k + 1))
            case measure => omega
            case rel => exact ⟨k + 1, os2, _, C2, by omega, rfl, by go_num, rfl, hol2, Lib.hid Hrow.out, Lib.hid Hpre.out, Hh.out⟩
          · have Hrow : Hid (os2 ++ [m / 4] = ordRow M b (k + 1) os) := Lib.hid (by rw [ordRow, ← Hos2.out, ← Hm.out, addN, if_neg hin])
            have Hfew : Hid (os2.length + 1 ≤ n) := Lib.hid (by
              have := ordRow_few HMT.out Hrn.out Hos.out hbc (show k + 1 ≤ 4 by omega)
              rw [← Hrow.out, List.length_append] at this
              exact this)
            have hfew := Hfew.out
            rw [decide_eq_false hin] at Hin
            clear hin
            have Hdiv : Hid ((m : Int) / 4 = ((m / 4 : Nat) : Int)) := Lib.hid (by omega)
            have Hh6 := Lib.hid (Hh.out.call ((Below.refl _ _).alloc (Nat.le_refl _) (.cells #[.int .i64 ((m : Int) / 4)] 3)))
            have HO6 : Hid (Own (wr.alloc (.cells #[.int .i64 ((m : Int) / 4)] 3)) w.heap.size 3 (some ⟨bo, oo, none⟩) C2 (ints (nats os2))) := Lib.hid (Hh6.out.sl (k := 0) rfl)
            have HC6 : Hid ((wr.alloc (.cells #[.int .i64 ((m : Int) / 4)] 3)).cell? ⟨wr.heap.size, 0, none⟩ = some (.int .i64 ((m : Int) / 4))) := Lib.hid (by
              have := (Row.new wr #[.int .i64 ((m : Int) / 4)] 3).cell 0
              simp at this ⊢)
            have HB6 : Hid (w.heap.size ≤ (wr.alloc (.cells #[.int .i64 ((m : Int) / 4)] 3)).heap.size) := Lib.hid Hh6.out.below.size
            have Hln : Hid ((ints (nats os2)).length = os2.length) := Lib.hid (natsv_len _)
            clear Hh
            go_wp2_with fail
            refine Hin.out.mono ?_
            rintro e w1 ⟨rfl, hw1⟩
            subst hw1
            go_wp2_with (with_reducible refine wpList_append_one rfl (.tmp 36) (.tmp 38) 22 rfl w.heap.size 3 i0 (.int .i64 0) 8 Tryd.underlying22 hi0 hz0 hz1 hz2 rfl (some ⟨bo, oo, none⟩) os2.length C2 (ints (nats os2)) rfl Hln.out HO6.out _ 1 (.int .i64 ((m : Int) / 4)) rfl HC6.out rfl (by omega) (by omega) HB6.out ?_; intro A7 C7 w7 hO7 hT7 hA7; have H7 := Lib.hid (Hh6.out.grow (k := 0) rfl hO7 hT7 hA7); clear hO7 hT7 hA7)
            go_roundg (4 - (k + 1))
            case measure => omega
            case rel =>
              refine ⟨k + 1, os2 ++ [m / 4], A7, C7, by omega, rfl, by go_num, by rw [List.length_append]; rfl, by rw [List.length_append]; exact Hfew.out, Lib.hid Hrow.out, Lib.hid (Hpre.out.trans (List.prefix_append _ _)), ?_⟩
              have h := H7.out
              rw [Hdiv.out, ints_nats_snoc] at h
              exact h
        · obtain rfl : k = 4 := by omega
          have Hend : Hid (os2 = ordTo M r (i + 1)) := Lib.hid (by rw [ordTo, ← Hos.out, if_pos hio, ← Hb.out, Hos2.out])
          have hil : i + 1 ≤ os2.length := Nat.lt_of_lt_of_le hio Hpre.out.length_le
          clear hk4 hk
          go_wp2_with fail
          go_roundg (n + 1 - (i + 1))
          case measure => omega
          case rel => exact ⟨i + 1, os2, A2, C2, hil, hol2, rfl, by go_num, rfl, Lib.hid Hend.out, Hh.out⟩
    · have HE : Hid (os = ordL M r n) := Lib.hid (by rw [Hos.out]; exact ordTo_end (by rw [← Hos.out]; omega) (by omega))
      go_wp2_with fail
      go_ret
      rw [← HE.out]
      exact ⟨A, C, rfl, Hh.out.sl (k := 0) rfl, Hh.out.below⟩
end Go.Proofs.YtmhhjchnjaefhaaDoor

namespace Go.Proofs.YtmhhjchnjaefhaaDoor
open Go Go.RowKit
section
variable {w : World} {ops : Array Oper} {o : Oper} {a : Act}
/-- An append of one number at a step of a region that draws its order. -/
theorem step_append_one {K : Act → World → Prop} {Q : Exit → Act → World → Prop} {E : Prop} (hgd : o.guard = none) (s x : Operand) (ho : o.op = .call { callee := .builtin .append, args := #[s, x], argTypes := #[22, 22] })
    (B : Nat) (i : TypeInfo) (h2 : Tryd.prog.info? 3 = some i) (h3 : i.zero = some (.int .i64 0)) (h4 : i.size = 1) (h5 : i.bytes = 8) (A : Option Addr) (n c : Nat) (vs : List Value) (hs : a.eval s = .slice A n c) (hn : vs.length = n) (hown : Own w B 3 A c vs) (ad : Addr) (m' : Nat) (u : Value) (hx : a.eval x = .slice (some ad) 1 m') (hu : w.cell? ad = some u) (hu1 : u.oneCell' = true)
    (hn1 : n ≤ 1000000) (hB : B ≤ w.heap.size) (h : ∀ A' c' w', Own w' B 3 A' c' (vs ++ [u]) → Turned w w' A → (∀ x, A' = some x → (w.heap.size ≤ x.block ∨ ∃ y, A = some y ∧ x = y)) → K (a.put o.dst (.slice A' (n + 1) c')) w') :
    if Region.wanted o (yielded ops a.tmps) = true then Oper.wp Tryd.prog o a w K Q else E := by
  have hw : Region.wanted o (yielded ops a.tmps) = true := by simp [Region.wanted, hgd]
  rw [if_pos hw]
  subst hn
  obtain ⟨a', c', w', hrun, r1, r2, r3⟩ := run_append_one (P := Tryd.prog) w B 22 o.type 3 i (.int .i64 0) 8 Tryd.underlying22 h2 h3 h4 h5 rfl A c vs hown ad m' u hu hu1 (by omega) (by omega) hB
  unfold Oper.wp
  simp [execOp, ho, resolve, invoke, builtin, hs, hx, hrun, Result.andThen]
  exact h a' c' w' r1 r2 r3
theorem run_app (W : World) (B : Nat) (ty : TypeId) (A : Option Addr) (c : Nat) (xs : List Int) (hown : Own W B 3 A c (ints xs)) (ax : Option Addr) (cx : Nat) (ys : List Int) (hus : IntsAt W ax ys) (hl : xs.length + ys.length ≤ 1000000) (hB : B ≤ W.heap.size) :
    ∃ A' c' w', (Builtin.append_ #[22, 22] ty #[.slice A xs.length c, .slice ax ys.length cx]).run Tryd.prog W = .ok (.slice A' (xs.length + ys.length) c') w' ∧ Own w' B 3 A' c' (ints (xs ++ ys)) ∧ Turned W w' A ∧ (∀ x, A' = some x → (W.heap.size ≤ x.block ∨ ∃ y, A = some y ∧ x = y)) := by
  obtain ⟨i0, hi0, hz0, hz1, hz2⟩ := info_parts Tryd.info3
  obtain ⟨a', c', w', hrun, r0, r1, r2, r3⟩ := run_append_wide (P := Tryd.prog) W B 22 22 ty 3 i0 (.int .i64 0) 8 1 Tryd.underlying22 Tryd.underlying22 hi0 hz0 hz1 (by decide) hz2 rfl A xs.length c (ints xs) (by rw [ints_length, Nat.mul_one]) (by have := hown.size; rw [ints_length] at this; exact this) (by rw [Nat.mul_one]; exact hown) ax ys.length cx (ints ys) (by rw [ints_length, Nat.mul_one]) hus (fun u hu => by
    obtain ⟨x, _, rfl⟩ := List.mem_map.1 hu; rfl) (by omega) (by omega) hB
  refine ⟨a', c', w', hrun, ?_, r2, r3⟩
  rw [Nat.mul_one] at r1
  have e : ints xs ++ ints ys = ints (xs ++ ys) := by simp only [ints, List.map_append]
  rw [← e]; exact r1
end
section
variable {ops : Array Oper} {Q : Exit → Act → World → Prop} {o : Oper} {rest : List Oper} {a : Act} {w : World}
/-- An append of numbers. -/
theorem wpList_app (hg : o.guard = none) (s x : Operand) (hop : o.op = .call { callee := .builtin .append, args := #[s, x], argTypes := #[22, 22] })
    (B : Nat) (A : Option Addr) (n c : Nat) (xs : List Int) (hs : a.eval s = .slice A n c) (hn : xs.length = n) (hown : Own w B 3 A c (ints xs)) (ax : Option Addr) (m cx : Nat) (ys : List Int) (hx : a.eval x = .slice ax m cx) (hm : ys.length = m) (hus : IntsAt w ax ys) (hl : n + m ≤ 1000000) (hB : B ≤ w.heap.size)
    (hK : ∀ A' c' w', Own w' B 3 A' c' (ints (xs ++ ys)) → Turned w w' A → (∀ x, A' = some x → (w.heap.size ≤ x.block ∨ ∃ y, A = some y ∧ x = y)) → wpList Tryd.prog ops Q rest (a.put o.dst (.slice A' (n + m) c')) w') :
    wpList Tryd.prog ops Q (o :: rest) a w := by
  subst hn; subst hm
  obtain ⟨A', c', w', hrun, r1, r2, r3⟩ := run_app w B o.type A c xs hown ax cx ys hus hl hB
  refine wpList_plain hg fun K hK' => ?_
  unfold Oper.wp
  simp [execOp, hop, resolve, invoke, builtin, hs, hx, hrun, Result.andThen]
  exact hK' _ _ (hK A' c' w' r1 r2 r3)
end
end Go.Proofs.YtmhhjchnjaefhaaDoor

namespace Go.Proofs.YtmhhjchnjaefhaaDoor
open Go Go.RowKit
/-- The numbers of the first i of an order. -/
def AtF (n : Nat) (os : List Nat) (i : Nat) (ns : List Int) : Prop := ns.length = n ∧ ∀ j, j < i → nth ns (os.getD j 0) = (j : Int)
theorem AtF.next {n i : Nat} {os : List Nat} {ns : List Int} (h : AtF n os i ns) (hnd : os.Nodup) (hi : i < os.length) (hl : os.getD i 0 < n) : AtF n os (i + 1) (ns.set (os.getD i 0) (i : Int)) := by
  refine ⟨by rw [List.length_set]; exact h.1, fun j hj => ?_⟩
  rw [nth_set _ _ _ _ (by rw [h.1]; exact hl)]
  by_cases e : j = i
  · subst e; rw [if_pos rfl]
  · rw [if_neg fun g => e ?_]
    · exact h.2 j (by omega)
    · rw [List.getD_eq_getElem?_getD, List.getD_eq_getElem?_getD, List.getElem?_eq_getElem hi, List.getElem?_eq_getElem (by omega)] at g
      exact ((List.getElem_inj hnd).1 g).symm
theorem AtF.of {n : Nat} {os : List Nat} {ns : List Int} (h : AtF n os os.length ns) {c : Nat} (hc : c ∈ os) : nth ns c = ((os.idxOf c : Nat) : Int) := by
  have hl := List.idxOf_lt_length_of_mem hc
  have := h.2 _ hl
  rwa [List.getD_eq_getElem?_getD, List.getElem?_eq_getElem hl, Option.getD_some, List.getElem_idxOf] at this
set_option maxRecDepth 100000 in
set_option maxHeartbeats 1000000 in
theorem from_any (S M : List Int) (L : Int) (aS aM : Option Addr) (cS cM : Nat) (r : Nat) (w : World) (hs : Shape S M L) (hr : r < S.length) (hS : IntsAt w aS S) (hM : IntsAt w aM M) :
    Calls Tryd.prog 46 #[.agg #[.slice aS S.length cS, .slice aM M.length cM, .int .i64 L], .int .i64 (r : Int)] w fun e w' => ∃ A C, e = .returned (.slice A (codeL S M r S.length).length C) ∧ Own w' w.heap.size 3 A C (ints (codeL S M r S.length)) ∧ Below w.heap.size w w' := by
  have hfw := hs.few
  have HMT : Hid (∀ x, x < 4 * S.length → mt M x < 4 * S.length) := Lib.hid fun x hx => hs.mt_lt hx
  have HMR : Hid (∀ x, x < 4 * S.length → nth M x = (mt M x : Int)) := Lib.hid fun x hx => by
    have := hs.range x hx
    unfold mt; omega
  have HN : Hid (∀ W', Below w.heap.size w W' → Calls Tryd.prog 47 #[.slice aM M.length cM, .int .i64 (r : Int)] W' fun e w' => ∃ A C, e = .returned (.slice A (ordL M r S.length).length C) ∧ Own w' W'.heap.size 3 A C (ints (nats (ordL M r S.length))) ∧ Below W'.heap.size W' w') := Lib.hid fun W' h => numbering_any M S.length r aM cM W' hfw hs.len HMT.out HMR.out hr (hM.later h)
  obtain ⟨bS, oS, haS, _, _⟩ := hS.open (by omega)
  obtain ⟨bM, oM, haM, _, _⟩ := hM.open (by rw [hs.len]; omega)
  subst haS haM
  have HS := Lib.hid hS
  have HM := Lib.hid hM
  have HMl := Lib.hid hs.len
  have hNb : M.length ≤ 256 := by rw [hs.len]; omega
  obtain ⟨i0, hi0, hz0, hz1, hz2⟩ := info_parts Tryd.info3
  have hmk := run_mk1 (T := 22) (z := .int .i64 0) (bytes := 8) Tryd.underlying22 Tryd.info3 rfl S.length S.length (Nat.le_refl _) (by omega) (by omega)
  have H0 := Lib.hid ((HH.start w).alloc #[.slice (some ⟨bS, oS, none⟩) S.length cS, .slice (some ⟨bM, oM, none⟩) M.length cM, .int .i64 L] 24 rfl rfl)
  have Hrn := Lib.hid hr
  have HO : Hid ((∀ c, c ∈ ordL M r S.length → c < S.length) ∧ (ordL M r S.length).Nodup ∧ (ordL M r S.length).length ≤ S.length ∧ Cl M (ordL M r S.length) (ordL M r S.length).length ∧ codeL S M r S.length = codeTo S M (ordL M r S.length) (ordL M r S.length).length) := Lib.hid ⟨ordTo_lt HMT.out hr _, ordTo_nodup _ _ _, ordTo_len HMT.out hr _, ordL_cl HMT.out hr, rfl⟩
  clear hs hS hM hr
  have hol : (ordL M r S.length).length ≤ S.length := HO.out.2.2.1
  generalize ordL M r S.length = os at *
  rw [HO.out.2.2.2.2]
  obtain ⟨N, hNe⟩ : ∃ N, N = M.length := ⟨_, rfl⟩
  have HNe := Lib.hid hNe
  generalize hn : S.length = n at *
  have Hn := Lib.hid hn
  clear hn
  have HNl : Hid (N = 4 * n) := Lib.hid (by rw [hNe, HMl.out])
  rw [← hNe] at H0 hNb HN ⊢
  clear hNe HMl
  have hNlo : 4 * n ≤ N := by rw [HNl.out]; exact Nat.le_refl _
  have hNhi : N ≤ 4 * n := by rw [HNl.out]; exact Nat.le_refl _
  have k0 := H0.out.cell (k := 0) (i := 0) rfl rfl
  have k1 := H0.out.cell (k := 0) (i := 1) rfl rfl
  go_enter Tryd.func46, Tryd.ntmps46
  go_wp2_with fail
  clear k0 k1
  refine (HN.out _ H0.out.below).mono ?_
  rintro e w1 ⟨Ao, Co, rfl, ho, hb⟩
  have H1 := Lib.hid (H0.out.addSl hb ho)
  clear ho hb H0 HN
  have k0 := H1.out.cell (k := 0) (i := 0) rfl rfl
  have H2 := Lib.hid (H1.out.alloc (Array.replicate n (.int .i64 0)) 3 (b := w1.heap.size) rfl (vs := ints (List.replicate n 0)) (replicate_ints _))
  go_upto_region 3 with fail
  clear k0 H1 hmk
  generalize w1.alloc (.cells (Array.replicate n (.int .i64 0)) 3) = v1 at *
  generalize w1.heap.size = q at *
  go_wp2_with fail
  go_loopg [7] os.length (fun g v wr => ∃ (i : Nat) (ns : List Int), i ≤ os.length ∧ g = os.length - i ∧ v = .int .i64 (i : Int) ∧ Hid (AtF n os i ns) ∧ HH w wr [(w.heap.size, rowO 24 [.slice (some ⟨bS, oS, none⟩) n cS, .slice (some ⟨bM, oM, none⟩) N cM, .int .i64 L]), (q, rowO 3 (ints ns))] [⟨Ao, Co, 3, ints (nats os)⟩])
  case atStart => exact ⟨0, _, Nat.zero_le _, rfl, rfl, Lib.hid ⟨by simp, fun j hj => by omega⟩, H2.out⟩
  case round =>
    obtain ⟨i, ns, hi, rfl, rfl, Hat, hh⟩ := hrel
    have Hh := Lib.hid hh
    clear hh H2
    by_cases hio : i < os.length
    · obtain ⟨b, hb⟩ : ∃ b, b = os.getD i 0 := ⟨_, rfl⟩
      have hbc : b < n := by rw [hb]; exact HO.out.1 _ (getD_mem hio)
      have Hat2 := Lib.hid (Hat.out.next HO.out.2.1 hio (by rw [← hb]; exact hbc))
      rw [← hb] at Hat2
      obtain ⟨bo, oo, rfl, _, _, hcR, _⟩ := (Hh.out.sl (k := 0) rfl).open (by show 0 < (ints (nats os)).length; rw [natsv_len]; omega)
      have hc0 : wr.cell? ⟨bo, oo + i, none⟩ = some (.int .i64 (b : Int)) := hcR i _ (by
        show (ints (nats os))[i]? = _
        unfold ints nats
        rw [List.getElem?_map, List.getElem?_map, getD_some (d := 0) hio, ← hb]; rfl)
      clear hcR hb
      have hb0 := Hh.out.int (k := 1) (i := b) rfl (by rw [Hat.out.1]; exact hbc)
      have hf0 := Hh.out.frozen (k := 1) rfl b
      have H3 := Lib.hid (Hh.out.setInt (k := 1) rfl b (i : Int))
      clear Hh
      go_wp2_with fail
      go_roundg (os.length - (i + 1))
      case measure => omega
      case rel => exact ⟨i + 1, _, by omega, rfl, by go_num, Lib.hid Hat2.out, H3.out⟩
    · obtain rfl : i = os.length := by omega
      clear hio hi
      have H3 := Lib.hid (Hh.out.addNil 3)
      go_wp2_with fail
      clear Hh
      go_loopg [9, 8] os.length (fun g v p wr => ∃ (i : Nat) (cd : List Int) (A' : Option Addr) (C' : Nat), i ≤ os.length ∧ g = os.length - i ∧ v = .int .i64 (i : Int) ∧ p = .slice A' cd.length C' ∧ Hid (cd.length = 5 * i) ∧ Hid (cd = codeTo S M os i) ∧ HH w wr [(w.heap.size, rowO 24 [.slice (some ⟨bS, oS, none⟩) n cS, .slice (some ⟨bM, oM, none⟩) N cM, .int .i64 L]), (q, rowO 3 (ints ns))] [⟨Ao, Co, 3, ints (nats os)⟩, ⟨A', C', 3, ints cd⟩])
      case atStart => exact ⟨0, [], none, 0, Nat.zero_le _, rfl, rfl, rfl, Lib.hid rfl, Lib.hid rfl, H3.out⟩
      case round =>
        obtain ⟨i, cd, A', C', hi, rfl, rfl, rfl, Hcl, Hcd, hh⟩ := hrel
        have Hh := Lib.hid hh
        clear hh H3
        have hcdl : cd.length ≤ 1000 := by have := Hcl.out; omega
        by_cases hio : i < os.length
        · obtain ⟨b, hb⟩ : ∃ b, b = os.getD i 0 := ⟨_, rfl⟩
          have Hb := Lib.hid hb
          have hbc : b < n := by rw [hb]; exact HO.out.1 _ (getD_mem hio)
          clear hb
          obtain ⟨bo, oo, rfl, _, _, hcR, _⟩ := (Hh.out.sl (k := 0) rfl).open (by show 0 < (ints (nats os)).length; rw [natsv_len]; omega)
          have hc0 : wr.cell? ⟨bo, oo + i, none⟩ = some (.int .i64 (b : Int)) := hcR i _ (by
            show (ints (nats os))[i]? = _
            unfold ints nats
            rw [List.getElem?_map, List.getElem?_map, getD_some (d := 0) hio, ← Hb.out]; rfl)
          clear hcR
          have kk0 := Hh.out.cell (k := 0) (i := 0) rfl rfl
          obtain ⟨_, _, e, _, hcS⟩ := (Hh.out.came HS.out).open (by have := Hn.out; omega)
          cases e
          have hsb := hcS b (by have := Hn.out; omega)
          clear hcS
          have Ha := Lib.hid (Hh.out.call ((Below.refl _ _).alloc (Nat.le_refl _) (.cells #[.int .i64 (nth S b)] 3))).drew
          have Hc0 : Hid ((wr.alloc (.cells #[.int .i64 (nth S b)] 3)).drew.cell? ⟨wr.heap.size, 0, none⟩ = some (.int .i64 (nth S b))) := Lib.hid ((Row.new wr #[.int .i64 (nth S b)] 3).cell 0)
          have Hl1 := Lib.hid Ha.out.below.size
          have Hln : Hid ((ints cd).length = cd.length) := Lib.hid (ints_length _)
          have kk1 := Ha.out.cell (k := 0) (i := 0) rfl rfl
          generalize hsv : nth S b = sv at *
          have Hsv := Lib.hid hsv
          clear hsv
          go_upto_region 11 with fail
          go_region_law ((refine step_append_one rfl (.tmp 39) (.tmp 48) rfl w.heap.size i0 hi0 hz0 hz1 hz2 A' cd.length C' (ints cd) rfl Hln.out (Ha.out.sl (k := 1) rfl) ⟨wr.heap.size, 0, none⟩ 1 (.int .i64 sv) rfl Hc0.out rfl (by omega) Hl1.out ?_); intro A7 C7 w7 hO7 hT7 hA7; have H7 := Lib.hid (Ha.out.grow (k := 1) rfl hO7 hT7 hA7); clear hO7 hT7 hA7)
          all_goals
            clear hc0 kk0 kk1 hsb Ha Hc0 Hl1 Hln Hh
            go_wp2_with fail
            go_loopg [10, 8] 4 (fun g v p wr => ∃ (k : Nat) (cd2 : List Int) (A' : Option Addr) (C' : Nat), k ≤ 4 ∧ g = 4 - k ∧ v = .int .i64 (k : Int) ∧ p = .slice A' cd2.length C' ∧ Hid (cd2.length = 5 * i + k + 1) ∧ Hid (cd2 = cd ++ rowC S M os b k) ∧ HH w wr [(w.heap.size, rowO 24 [.slice (some ⟨bS, oS, none⟩) n cS, .slice (some ⟨bM, oM, none⟩) N cM, .int .i64 L]), (q, rowO 3 (ints ns))] [⟨some ⟨bo, oo, none⟩, Co, 3, ints (nats os)⟩, ⟨A', C', 3, ints cd2⟩])
            case atStart =>
              refine ⟨0, cd ++ [sv], A7, C7, by omega, rfl, rfl, by rw [List.length_append]; rfl, Lib.hid (by rw [List.length_append, Hcl.out]; rfl), Lib.hid (by rw [rowC_zero, Hsv.out]), ?_⟩
              have h := H7.out
              rw [ints_snoc'] at h
              exact h
            case round =>
              obtain ⟨k, cd2, A2, C2, hk, rfl, rfl, rfl, Hcl2, Hcd2, hh⟩ := hrel
              have Hh := Lib.hid hh
              clear hh H7
              by_cases hk4 : k < 4
              · have hk5 : 4 * b + k < 4 * n := by omega
                have hml := HMT.out (4 * b + k) hk5
                have hmv := HMR.out (4 * b + k) hk5
                obtain ⟨m, hm⟩ : ∃ m, m = mt M (4 * b + k) := ⟨_, rfl⟩
                have Hm := Lib.hid hm
                rw [← hm] at hml hmv
                clear hm
                obtain ⟨_, _, e, _, _, hcR, _⟩ := (Hh.out.sl (k := 0) rfl).open (by show 0 < (ints (nats os)).length; rw [natsv_len]; omega)
                cases e
                have hc0 : wr.cell? ⟨bo, oo + i, none⟩ = some (.int .i64 (b : Int)) := hcR i _ (by
                  show (ints (nats os))[i]? = _
                  unfold ints nats
                  rw [List.getElem?_map, List.getElem?_map, getD_some (d := 0) hio, ← Hb.out]; rfl)
                clear hcR
                obtain ⟨_, _, e, _, hcM⟩ := (Hh.out.came HM.out).open (by have := HNe.out; omega)
                cases e
                have hcm := hcM (4 * b + k) (by have := HNe.out; omega)
                rw [hmv] at hcm
                clear hcM hmv
                have kk1 := Hh.out.cell (k := 0) (i := 1) rfl rfl
                have hm4 : m / 4 < n := by omega
                obtain ⟨x, hx⟩ : ∃ x, x = os.idxOf (m / 4) := ⟨_, rfl⟩
                have hin : m / 4 ∈ os := by
                  have := HO.out.2.2.2.1.2 i hio k hk4
                  rwa [← Hb.out, ← Hm.out] at this
                have hxl : x < os.length := by rw [hx]; exact List.idxOf_lt_length_of_mem hin
                have hbs : wr.cell? ⟨q, m / 4, none⟩ = some (.int .i64 (x : Int)) := by
                  have := Hh.out.int (k := 1) (i := m / 4) rfl (by rw [Hat.out.1]; exact hm4)
                  rwa [Hat.out.of hin, ← hx] at this
                have Hrow : Hid (cd2 ++ [4 * (x : Int) + (m : Int) % 4] = cd ++ rowC S M os b (k + 1)) := Lib.hid (by
                  rw [Hcd2.out, rowC_snoc, ← Hm.out, ← hx, List.append_assoc]; congr 3)
                clear hin hx
                have hcl2 : cd2.length ≤ 1000 := by have := Hcl2.out; omega
                go_upto_region 15 with fail
                go_quiet (fail)
                have Hd := Lib.hid (Hh.out.drewN nq)
                have hbs2 : (wr.drewN nq).cell? ⟨q, m / 4, none⟩ = some (.int .i64 (x : Int)) := hbs
                clear hbs hc0 kk1 hcm Hh
                generalize wr.drewN nq = W at *
                have Hh6 := Lib.hid (Hd.out.call ((Below.refl _ _).alloc (Nat.le_refl _) (.cells #[.int .i64 (4 * (x : Int) + (m : Int) % 4)] 3)))
                have HO6 : Hid (Own (W.alloc (.cells #[.int .i64 (4 * (x : Int) + (m : Int) % 4)] 3)) w.heap.size 3 A2 C2 (ints cd2)) := Lib.hid (Hh6.out.sl (k := 1) rfl)
                have HC6 : Hid ((W.alloc (.cells #[.int .i64 (4 * (x : Int) + (m : Int) % 4)] 3)).cell? ⟨W.heap.size, 0, none⟩ = some (.int .i64 (4 * (x : Int) + (m : Int) % 4))) := Lib.hid (by
                  have := (Row.new W #[.int .i64 (4 * (x : Int) + (m : Int) % 4)] 3).cell 0
                  simp at this ⊢)
                have HB6 : Hid (w.heap.size ≤ (W.alloc (.cells #[.int .i64 (4 * (x : Int) + (m : Int) % 4)] 3)).heap.size) := Lib.hid Hh6.out.below.size
                have Hln : Hid ((ints cd2).length = cd2.length) := Lib.hid (ints_length _)
                go_wp2_with (with_reducible refine wpList_append_one rfl (.tmp 65) (.tmp 75) 22 rfl w.heap.size 3 i0 (.int .i64 0) 8 Tryd.underlying22 hi0 hz0 hz1 hz2 rfl A2 cd2.length C2 (ints cd2) rfl Hln.out HO6.out _ 1 (.int .i64 (4 * (x : Int) + (m : Int) % 4)) rfl HC6.out rfl (by omega) (by omega) HB6.out ?_; intro A7 C7 w7 hO7 hT7 hA7; have H7 := Lib.hid (Hh6.out.grow (k := 1) rfl hO7 hT7 hA7); clear hO7 hT7 hA7)
                go_roundg (4 - (k + 1))
                case measure => omega
                case rel =>
                  refine ⟨k + 1, cd2 ++ [4 * (x : Int) + (m : Int) % 4], A7, C7, by omega, rfl, by go_num, by rw [List.length_append]; rfl, Lib.hid (by rw [List.length_append, Hcl2.out]; rfl), Lib.hid Hrow.out, ?_⟩
                  have h := H7.out
                  rw [ints_snoc'] at h
                  exact h
              · obtain rfl : k = 4 := by omega
                have Hend : Hid (cd2 = codeTo S M os (i + 1)) := Lib.hid (by rw [codeTo_succ, ← Hb.out, ← Hcd.out, Hcd2.out])
                clear hk4 hk
                go_wp2_with fail
                go_roundg (os.length - (i + 1))
                case measure => omega
                case rel => exact ⟨i + 1, cd2, A2, C2, by omega, rfl, by go_num, rfl, Lib.hid (by rw [Hcl2.out]; omega), Lib.hid Hend.out, Hh.out⟩
        · obtain rfl : i = os.length := by omega
          go_wp2_with fail
          go_ret
          rw [← Hcd.out]
          exact ⟨A', C', rfl, Hh.out.sl (k := 1) rfl, Hh.out.below⟩
end Go.Proofs.YtmhhjchnjaefhaaDoor

