/- canon.number: the numbering of a component and its code, compared with the best one. -/
import Derived.Lib.SliceRun
import Derived.BigQuiet
import Derived.WalkKit
import Derived.WalkSpells
import Derived.WalkLawsBesides
import Derived.Deep.AppendSrc
import Derived.Deep.LoopGhost
import Derived.Deep.QuietTactic
import Derived.Deep.RegionWith
import Derived.Deep.DeepMust
import Derived.Deep.DeepFit
import Derived.Lib.Hide
import Derived.Outline
import Derived.Test.YtmhhjchnjaefhaaDoorProg
import Derived.Deep.Matrix
import Derived.Deep.DeepCutAuto
import Derived.Deep.RegionLaw
import Derived.Deep.RegionHeld3
import Derived.Test.YtmhhjchnjaefhaaDoorFbAa
import Derived.Test.YtmhhjchnjaefhaaDoorFbAb
import Derived.Test.YtmhhjchnjaefhaaDoorFbAc
import Derived.Test.YtmhhjchnjaefhaaDoorFbAd
import Derived.Test.YtmhhjchnjaefhaaDoorFbAe
import Derived.Test.YtmhhjchnjaefhaaDoorFbAf
import Derived.Test.YtmhhjchnjaefhaaDoorFbAg
import Derived.Test.YtmhhjchnjaefhaaDoorFbAh
import Derived.Test.YtmhhjchnjaefhaaDoorFbAi
import Derived.Test.YtmhhjchnjaefhaaDoorFbAj
namespace Go.Proofs.YtmhhjchnjaefhaaDoor
open Go Go.RowKit
/-- The numbers of an order, as the program keeps them. -/
structure NumF (n : Nat) (o : List Nat) (ns : List Int) : Prop where
  len : ns.length = n
  val : ∀ d, d < n → nth ns d = if d ∈ o then ((o.idxOf d : Nat) : Int) else -1
theorem NumF.add {n : Nat} {o : List Nat} {ns : List Int} (h : NumF n o ns) {c : Nat} (hc : c < n) (hn : c ∉ o) : NumF n (addN o c) (ns.set c (o.length : Int)) :=
  ⟨by rw [List.length_set]; exact h.len, fun d hd => by
    rw [nth_set _ _ _ _ (by rw [h.len]; exact hc), h.val d hd, addN, if_neg hn]
    by_cases e : c = d
    · subst e
      rw [if_pos rfl, if_pos (by simp), List.idxOf_append, if_neg hn]; simp
    · rw [if_neg e]
      by_cases g : d ∈ o
      · rw [if_pos g, if_pos (by simp [g]), List.idxOf_append, if_pos g]
      · rw [if_neg g, if_neg (by simp [g]; exact fun e' => e e'.symm)]⟩
theorem NumF.old {n : Nat} {o : List Nat} {ns : List Int} (h : NumF n o ns) {c : Nat} (hn : c ∈ o) : NumF n (addN o c) ns := by
  unfold addN; rw [if_pos hn]; exact h
theorem NumF.start {n r : Nat} {ns : List Int} (hl : ns.length = n) (hv : ∀ d, d < n → nth ns d = -1) (hr : r < n) : NumF n [r] (ns.set r 0) :=
  ⟨by rw [List.length_set]; exact hl, fun d hd => by
    rw [nth_set _ _ _ _ (by rw [hl]; exact hr), hv d hd]
    by_cases e : r = d
    · subst e; simp
    · rw [if_neg e, if_neg (by simp; exact fun e' => e e'.symm)]⟩
theorem ints_snoc' (l : List Int) (x : Int) : ints l ++ [.int .i64 x] = ints (l ++ [x]) := by simp [ints]
theorem rowC_zero (S M : List Int) (o : List Nat) (c : Nat) : rowC S M o c 0 = [nth S c] := by simp [rowC]
theorem ordRow_few {M : List Int} {n r i b k : Nat} {os : List Nat} (hm : ∀ x, x < 4 * n → mt M x < 4 * n) (hr : r < n) (hos : os = ordTo M r i) (hb : b < n) (hk : k ≤ 4) : (ordRow M b k os).length ≤ n := by
  subst hos
  refine nodup_few n _ (ordRow_nodup _ _ (ordTo_nodup M r i) _) fun d hd => ?_
  rcases ordRow_cases hd with h | ⟨s, hs, rfl⟩
  · exact ordTo_lt hm hr i d h
  · have := hm (4 * b + s) (by omega)
    omega
theorem row_old {S M : List Int} {os os2 : List Nat} {b k m x : Nat} {cd cd2 : List Int} (h : os2 = ordRow M b k os) (hm : mt M (4 * b + k) = m) (hin : m / 4 ∈ os2) (hc : cd2 = cd ++ rowC S M os2 b k) (hx : x = os2.idxOf (m / 4)) :
    os2 = ordRow M b (k + 1) os ∧ cd2 ++ [4 * (x : Int) + (m : Int) % 4] = cd ++ rowC S M os2 b (k + 1) := by
  refine ⟨?_, ?_⟩
  · rw [ordRow, ← h, hm, addN, if_pos hin]
  · rw [hc, rowC_snoc, hm, ← hx, List.append_assoc]
    congr 3
theorem row_new {S M : List Int} {os os2 : List Nat} {b k m : Nat} {cd cd2 : List Int} (h : os2 = ordRow M b k os) (hm : mt M (4 * b + k) = m) (hin : m / 4 ∉ os2) (hc : cd2 = cd ++ rowC S M os2 b k) :
    os2 ++ [m / 4] = ordRow M b (k + 1) os ∧ cd2 ++ [4 * (os2.length : Int) + (m : Int) % 4] = cd ++ rowC S M (os2 ++ [m / 4]) b (k + 1) := by
  refine ⟨?_, ?_⟩
  · rw [ordRow, ← h, hm, addN, if_neg hin]
  · rw [hc, rowC_snoc, hm, List.idxOf_append, if_neg hin, rowC_pre (List.prefix_append _ _) (fun s hs => by rw [h]; exact ordRow_mem _ _ _ hs), List.append_assoc]
    simp
theorem Own.cap {w : World} {B : Nat} {E : TypeId} {a : Option Addr} {c : Nat} {vs : List Value} (h : Own w B E a c vs) : vs.length ≤ c := by
  rcases h with ⟨_, rfl, rfl⟩ | ⟨b, off, cur, _, _, _, h, _⟩
  · exact Nat.le_refl _
  · exact h
theorem take_row {B : List Int} (i : Nat) : B.take (5 * (i + 1)) = B.take (5 * i) ++ (B.drop (5 * i)).take 5 := by
  rw [show 5 * (i + 1) = 5 * i + 5 by omega, List.take_add]
theorem cmp_row {cd rw B : List Int} {i : Nat} (hc : cd.length = 5 * i) (hb : 5 * i + 5 ≤ B.length) (h : cmpL cd (B.take (5 * i)) = 0) :
    cmpL (cd ++ rw) (B.take (5 * (i + 1))) = cmpL ((cd ++ rw).drop (5 * i)) ((B.drop (5 * i)).take 5) := by
  rw [take_row, cmpL_append _ _ (by rw [List.length_take, hc]; omega), if_pos h, ← hc, List.drop_left]
theorem cmp_row_neg {cd rw B : List Int} {i : Nat} (hc : cd.length = 5 * i) (hb : 5 * i + 5 ≤ B.length) (h : cmpL cd (B.take (5 * i)) < 0) :
    cmpL (cd ++ rw) (B.take (5 * (i + 1))) = cmpL cd (B.take (5 * i)) := by
  rw [take_row, cmpL_append _ _ (by rw [List.length_take, hc]; omega), if_neg (by omega)]
theorem row_end {S M : List Int} {r i b : Nat} {os os2 : List Nat} {cd cd2 : List Int} (hos : os = ordTo M r i) (hio : i < os.length) (hb : b = os.getD i 0) (h2 : os2 = ordRow M b 4 os) (hcd : cd = codeTo S M (ordTo M r i) i) (hc2 : cd2 = cd ++ rowC S M os2 b 4) :
    os2 = ordTo M r (i + 1) ∧ cd2 = codeTo S M (ordTo M r (i + 1)) (i + 1) := by
  have e : os2 = ordTo M r (i + 1) := by rw [ordTo, ← hos, if_pos hio, ← hb, h2]
  refine ⟨e, ?_⟩
  have hp : os <+: os2 := by rw [h2]; exact ordRow_pre _ _ _ _
  have hcl : Cl M os i := by rw [hos]; exact ordTo_cl M r i (by rw [← hos]; omega)
  rw [← hos] at hcd
  rw [codeTo_succ, ← e, pre_getD hp hio, codeTo_pre hp hcl, ← hcd, hc2, hb]
set_option maxRecDepth 100000 in
set_option maxHeartbeats 1000000 in
theorem number_first (S M : List Int) (L : Int) (aS aM : Option Addr) (cS cM : Nat) (r : Nat) (w : World) (hs : Shape S M L) (hr : r < S.length) (hS : IntsAt w aS S) (hM : IntsAt w aM M) :
    Calls Tryd.prog 66 #[.agg #[.slice aS S.length cS, .slice aM M.length cM, .int .i64 L], .int .i64 (r : Int), .slice none 0 0] w fun e w' => ∃ A C A' C', e = .returned (.tuple #[.slice A' (codeL S M r S.length).length C', .slice A (ordL M r S.length).length C, .int .i64 (-1)]) ∧ Own w' w.heap.size 3 A C (ints (nats (ordL M r S.length))) ∧ Own w' w.heap.size 3 A' C' (ints (codeL S M r S.length)) ∧ Below w.heap.size w w' := by
  have hfw := hs.few
  have HMT : Hid (∀ x, x < 4 * S.length → mt M x < 4 * S.length) := Lib.hid fun x hx => hs.mt_lt hx
  have HMt : Hid (∀ x, x < 4 * S.length → ∃ p : Nat, p < 4 * S.length ∧ nth M x = (p : Int) ∧ mt M x = p) := Lib.hid fun x hx => by
    have := hs.range x hx
    exact ⟨mt M x, hs.mt_lt hx, by unfold mt; omega, rfl⟩
  obtain ⟨bS, oS, haS, _, _⟩ := hS.open (by omega)
  obtain ⟨bM, oM, haM, _, _⟩ := hM.open (by rw [hs.len]; omega)
  subst haS haM
  have HS := Lib.hid hS
  have HM := Lib.hid hM
  have HMl := Lib.hid hs.len
  have hNb : M.length ≤ 256 := by rw [hs.len]; omega
  obtain ⟨i0, hi0, hz0, hz1, hz2⟩ := info_parts Tryd.info3
  have hmk := run_mk1 (T := 22) (z := .int .i64 0) (bytes := 8) Tryd.underlying22 Tryd.info3 rfl S.length S.length (Nat.le_refl _) (by omega) (by omega)
  have H0 := Lib.hid ((HH.start w).alloc #[.slice (some ⟨bS, oS, none⟩) S.length cS, .slice (some ⟨bM, oM, none⟩) M.length cM, .int .i64 L] 24 rfl rfl)
  have H1 := Lib.hid (H0.out.alloc (Array.replicate S.length (.int .i64 0)) 3 (b := w.heap.size + 1) (by simp) (vs := ints (List.replicate S.length 0)) (replicate_ints _))
  have Hrn := Lib.hid hr
  clear hs hS hM
  obtain ⟨N, hNe⟩ : ∃ N, N = M.length := ⟨_, rfl⟩
  have HNe := Lib.hid hNe
  generalize hn : S.length = n at *
  have Hn := Lib.hid hn
  clear hn
  have HNl : Hid (N = 4 * n) := Lib.hid (by rw [hNe, HMl.out])
  rw [← hNe] at H0 H1 hNb ⊢
  clear hNe HMl
  have hNlo : 4 * n ≤ N := by rw [HNl.out]; exact Nat.le_refl _
  have hNhi : N ≤ 4 * n := by rw [HNl.out]; exact Nat.le_refl _
  have k0 := H0.out.cell (k := 0) (i := 0) rfl rfl
  have k1 := H0.out.cell (k := 0) (i := 1) rfl rfl
  have k2 := H1.out.cell (k := 0) (i := 0) rfl rfl
  have qT : ∀ (w : World) (a : Option Addr) (n c n' c' : Nat), (binOp .eql 22 (.slice a n c) (.slice none n' c')).run Tryd.prog w = .ok (.bool a.isNone) w := fun w a n c n' c' => Lib.run_eql_slice_nil w _ _ a n c n' c' Tryd.underlying22
  go_enter Tryd.func66, Tryd.ntmps66
  go_wp2_with fail
  clear k0 k1 k2
  go_loopg [24] n (fun g v wr => ∃ (c : Nat) (ns : List Int), c ≤ n ∧ g = n - c ∧ v = .int .i64 c ∧ ns.length = n ∧ Hid (∀ d, d < c → nth ns d = -1) ∧ HH w wr [(w.heap.size, rowO 24 [.slice (some ⟨bS, oS, none⟩) n cS, .slice (some ⟨bM, oM, none⟩) N cM, .int .i64 L]), (w.heap.size + 1, rowO 3 (ints ns))] [])
  case atStart => exact ⟨0, _, Nat.zero_le _, rfl, rfl, by simp, Lib.hid fun d hd => by omega, H1.out⟩
  case round =>
    obtain ⟨c, ns, hc, rfl, rfl, hnl, Hv, hh⟩ := hrel
    have Hh := Lib.hid hh
    clear hh H0 H1 hmk
    have Hnl := Lib.hid hnl
    by_cases hcn : c < n
    · have hb0 := Hh.out.int (k := 1) (i := c) rfl (by omega)
      have hf0 := Hh.out.frozen (k := 1) rfl c
      clear hnl
      go_wp2_with fail
      go_roundg (n - (c + 1))
      case measure => omega
      case rel =>
        refine ⟨c + 1, ns.set c (-1), by omega, rfl, by go_num, by rw [List.length_set]; exact Hnl.out, Lib.hid fun d hd => ?_, Hh.out.setInt (k := 1) rfl c (-1)⟩
        rw [nth_set _ _ _ _ (by rw [Hnl.out]; exact hcn)]
        split
        · rfl
        · exact Hv.out d (by omega)
    obtain rfl : c = n := by omega
    clear hcn hc
    have hrc := Hrn.out
    have Hnf := Lib.hid (NumF.start Hnl.out Hv.out Hrn.out)
    have Hg1 := Lib.hid (Hh.out.addSl (s := []) ((Below.refl _ _).alloc (Nat.le_refl _) (.cells #[.int .i64 (r : Int)] 3)) (((Row.new _ #[.int .i64 (r : Int)] 3).own (Nat.le_refl _))))
    have hb0 := Hg1.out.int (k := 1) (i := r) rfl (by rw [Hnl.out]; exact Hrn.out)
    have hf0 := Hg1.out.frozen (k := 1) rfl r
    have Hg2 := Lib.hid ((Hg1.out.setInt (k := 1) rfl r 0).addNil 3)
    clear Hh Hv hnl Hg1
    go_wp2_with fail
    clear hb0 hf0
    go_loopg [14, 11, 12, 13] (c + 1) (fun g v q q' u wr => ∃ (i : Nat) (V : Int) (os : List Nat) (ns cd : List Int) (A A' : Option Addr) (C C' : Nat), i ≤ os.length ∧ os.length ≤ c ∧ g = c + 1 - i ∧ v = .int .i64 (i : Int) ∧ q = .slice A os.length C ∧ q' = .slice A' cd.length C' ∧ Hid (cd.length = 5 * i) ∧ u = .int .i64 V ∧ V = -1 ∧ Hid (os = ordTo M r i) ∧ Hid (cd = codeTo S M (ordTo M r i) i) ∧ Hid (NumF c os ns) ∧ HH w wr [(w.heap.size, rowO 24 [.slice (some ⟨bS, oS, none⟩) c cS, .slice (some ⟨bM, oM, none⟩) N cM, .int .i64 L]), (w.heap.size + 1, rowO 3 (ints ns))] [⟨A, C, 3, ints (nats os)⟩, ⟨A', C', 3, ints cd⟩])
    case atStart =>
      refine ⟨0, -1, [r], _, [], _, none, 1, 0, Nat.zero_le _, by simp; omega, rfl, rfl, rfl, rfl, Lib.hid rfl, rfl, rfl, Lib.hid rfl, Lib.hid rfl, Lib.hid Hnf.out, ?_⟩
      have h := Hg2.out
      simpa [nats, ints, setO] using h
    case round =>
      obtain ⟨i, V, os, ns', cd, A, A', C, C', hi, hol, rfl, rfl, rfl, rfl, Hcl, rfl, rfl, Hos, Hcd, Hnum, hh⟩ := hrel
      have Hh := Lib.hid hh
      clear hh Hg2 Hnf
      have hcdl : cd.length ≤ 1000 := by have := Hcl.out; omega
      by_cases hio : i < os.length
      · obtain ⟨b, hb⟩ : ∃ b, b = os.getD i 0 := ⟨_, rfl⟩
        have Hb := Lib.hid hb
        have hbc : b < c := by
          rw [hb, Hos.out]
          rw [Hos.out] at hio
          exact ordTo_lt HMT.out Hrn.out i _ (by rw [List.getD_eq_getElem?_getD, List.getElem?_eq_getElem hio]; exact List.getElem_mem hio)
        clear hb
        obtain ⟨bo, oo, rfl, _, _, hcR, _⟩ := (Hh.out.sl (k := 0) rfl).open (by show 0 < (ints (nats os)).length; rw [natsv_len]; omega)
        have hc0 : wr.cell? ⟨bo, oo + i, none⟩ = some (.int .i64 (b : Int)) := hcR i _ (by show (ints (nats os))[i]? = _; rw [Hb.out]; unfold ints nats; rw [List.getD_eq_getElem?_getD, List.getElem?_map, List.getElem?_map, List.getElem?_eq_getElem hio]; rfl)
        clear hcR
        have kk0 := Hh.out.cell (k := 0) (i := 0) rfl rfl
        obtain ⟨_, _, e, _, hcS⟩ := (Hh.out.came HS.out).open (by have := Hn.out; omega)
        cases e
        have hsb := hcS b (by have := Hn.out; omega)
        clear hcS
        have Hh6 := Lib.hid (Hh.out.call ((Below.refl _ _).alloc (Nat.le_refl _) (.cells #[.int .i64 (nth S b)] 3)))
        have HO6 : Hid (Own (wr.alloc (.cells #[.int .i64 (nth S b)] 3)) w.heap.size 3 A' C' (ints cd)) := Lib.hid (Hh6.out.sl (k := 1) rfl)
        have HC6 : Hid ((wr.alloc (.cells #[.int .i64 (nth S b)] 3)).cell? ⟨wr.heap.size, 0, none⟩ = some (.int .i64 (nth S b))) := Lib.hid (by
          have := (Row.new wr #[.int .i64 (nth S b)] 3).cell 0
          simp at this ⊢)
        have HB6 : Hid (w.heap.size ≤ (wr.alloc (.cells #[.int .i64 (nth S b)] 3)).heap.size) := Lib.hid Hh6.out.below.size
        have Hln : Hid ((ints cd).length = cd.length) := Lib.hid (ints_length _)
        clear Hh
        go_wp2_with (with_reducible refine wpList_append_one rfl (.tmp 48) (.tmp 54) 22 rfl w.heap.size 3 i0 (.int .i64 0) 8 Tryd.underlying22 hi0 hz0 hz1 hz2 rfl A' cd.length C' (ints cd) rfl Hln.out HO6.out _ 1 (.int .i64 (nth S b)) rfl HC6.out rfl (by omega) (by omega) HB6.out ?_; intro A7 C7 w7 hO7 hT7 hA7; have H7 := Lib.hid (Hh6.out.grow (k := 1) rfl hO7 hT7 hA7); clear hO7 hT7 hA7)
        clear hc0 kk0 hsb Hh6 HO6 HC6 HB6 Hln
        go_loopg [56, 11, 12] 4 (fun g v q q' wr => ∃ (k : Nat) (os2 : List Nat) (ns2 cd2 : List Int) (A A' : Option Addr) (C C' : Nat), k ≤ 4 ∧ g = 4 - k ∧ v = .int .i64 (k : Int) ∧ q = .slice A os2.length C ∧ q' = .slice A' cd2.length C' ∧ os2.length ≤ c ∧ Hid (cd2.length = 5 * i + k + 1) ∧ Hid (os2 = ordRow M b k os) ∧ Hid (cd2 = cd ++ rowC S M os2 b k) ∧ Hid (NumF c os2 ns2) ∧ HH w wr [(w.heap.size, rowO 24 [.slice (some ⟨bS, oS, none⟩) c cS, .slice (some ⟨bM, oM, none⟩) N cM, .int .i64 L]), (w.heap.size + 1, rowO 3 (ints ns2))] [⟨A, C, 3, ints (nats os2)⟩, ⟨A', C', 3, ints cd2⟩])
        case atStart =>
          refine ⟨0, os, ns', cd ++ [nth S b], _, A7, C, C7, by omega, rfl, rfl, rfl, by rw [List.length_append]; rfl, hol, Lib.hid (by rw [List.length_append, Hcl.out]; rfl), Lib.hid rfl, Lib.hid (by rw [rowC_zero]), Lib.hid Hnum.out, ?_⟩
          have h := H7.out
          rw [ints_snoc'] at h
          exact h
        case round =>
          obtain ⟨k, os2, ns2, cd2, A2, A3, C2, C3, hk, rfl, rfl, rfl, rfl, hol2, Hcl2, Hos2, Hcd2, Hnum2, hh⟩ := hrel
          have Hh := Lib.hid hh
          clear hh H7
          by_cases hk4 : k < 4
          · have hk5 : 4 * b + k < 4 * c := by omega
            obtain ⟨m, hml, hmv, hmm⟩ := HMt.out (4 * b + k) hk5
            obtain ⟨_, _, e, _, hcM⟩ := (Hh.out.came HM.out).open (by have := HNe.out; omega)
            cases e
            have hcm := hcM (4 * b + k) (by have := HNe.out; omega)
            rw [hmv] at hcm
            clear hcM
            have Hmm := Lib.hid hmm
            clear hmv hmm
            have kk1 := Hh.out.cell (k := 0) (i := 1) rfl rfl
            have hm4 : m / 4 < c := by omega
            have hbs := Hh.out.int (k := 1) (i := m / 4) rfl (by rw [Hnum2.out.len]; exact hm4)
            have hbf := Hh.out.frozen (k := 1) rfl (m / 4)
            rw [Hnum2.out.val (m / 4) hm4] at hbs
            by_cases hin : m / 4 ∈ os2
            · rw [if_pos hin] at hbs
              have Hin := Lib.hid hin
              have hx := List.idxOf_lt_length_of_mem hin
              clear hin
              obtain ⟨x, hxe⟩ : ∃ x, x = os2.idxOf (m / 4) := ⟨_, rfl⟩
              rw [← hxe] at hbs hx
              have Hxe := Lib.hid hxe
              clear hxe
              have t1 : decide ((x : Int) < 0) = false := decide_eq_false (by omega)
              have Hrow := Lib.hid (row_old Hos2.out Hmm.out Hin.out Hcd2.out Hxe.out)
              have Hh6 := Lib.hid (Hh.out.call ((Below.refl _ _).alloc (Nat.le_refl _) (.cells #[.int .i64 (4 * (x : Int) + (m : Int) % 4)] 3)))
              have HO6 : Hid (Own (wr.alloc (.cells #[.int .i64 (4 * (x : Int) + (m : Int) % 4)] 3)) w.heap.size 3 A3 C3 (ints cd2)) := Lib.hid (Hh6.out.sl (k := 1) rfl)
              have HC6 : Hid ((wr.alloc (.cells #[.int .i64 (4 * (x : Int) + (m : Int) % 4)] 3)).cell? ⟨wr.heap.size, 0, none⟩ = some (.int .i64 (4 * (x : Int) + (m : Int) % 4))) := Lib.hid (by
                have := (Row.new wr #[.int .i64 (4 * (x : Int) + (m : Int) % 4)] 3).cell 0
                simp at this ⊢)
              have HB6 : Hid (w.heap.size ≤ (wr.alloc (.cells #[.int .i64 (4 * (x : Int) + (m : Int) % 4)] 3)).heap.size) := Lib.hid Hh6.out.below.size
              have Hln : Hid ((ints cd2).length = cd2.length) := Lib.hid (ints_length _)
              have hcl2 : cd2.length ≤ 1000 := by have := Hcl2.out; have := Hcl.out; omega
              clear Hh
              go_wp2_with (with_reducible refine wpList_append_one rfl (.tmp 84) (.tmp 94) 22 rfl w.heap.size 3 i0 (.int .i64 0) 8 Tryd.underlying22 hi0 hz0 hz1 hz2 rfl A3 cd2.length C3 (ints cd2) rfl Hln.out HO6.out _ 1 (.int .i64 (4 * (x : Int) + (m : Int) % 4)) rfl HC6.out rfl (by omega) (by omega) HB6.out ?_; intro A7 C7 w7 hO7 hT7 hA7; have H7 := Lib.hid (Hh6.out.grow (k := 1) rfl hO7 hT7 hA7); clear hO7 hT7 hA7)
              go_roundg (4 - (k + 1))
              case measure => omega
              case rel =>
                refine ⟨k + 1, os2, ns2, cd2 ++ [4 * (x : Int) + (m : Int) % 4], A2, A7, C2, C7, by omega, rfl, by go_num, rfl, by rw [List.length_append]; rfl, hol2, Lib.hid (by rw [List.length_append, Hcl2.out]; rfl), Lib.hid Hrow.out.1, Lib.hid Hrow.out.2, Lib.hid Hnum2.out, ?_⟩
                have h := H7.out
                rw [ints_snoc'] at h
                exact h
            · rw [if_neg hin] at hbs
              have Hrow := Lib.hid (row_new Hos2.out Hmm.out hin Hcd2.out)
              have Hnew : Hid (NumF c (os2 ++ [m / 4]) (ns2.set (m / 4) (os2.length : Int))) := Lib.hid (by
                have := Hnum2.out.add hm4 hin
                unfold addN at this
                rw [if_neg hin] at this
                exact this)
              have Hfew : Hid (os2.length + 1 ≤ c) := Lib.hid (by
                have := ordRow_few HMT.out Hrn.out Hos.out hbc (show k + 1 ≤ 4 by omega)
                rw [← Hrow.out.1, List.length_append] at this
                exact this)
              have hfew := Hfew.out
              clear hin
              have Hdiv : Hid ((m : Int) / 4 = ((m / 4 : Nat) : Int)) := Lib.hid (by omega)
              have Hh5 := Lib.hid (Hh.out.setInt (k := 1) rfl (m / 4) (os2.length : Int))
              have Hh6 := Lib.hid (Hh5.out.call ((Below.refl _ _).alloc (Nat.le_refl _) (.cells #[.int .i64 ((m : Int) / 4)] 3)))
              have HO6 : Hid (Own ((wr.setCell ⟨w.heap.size + 1, m / 4, none⟩ (.int .i64 (os2.length : Int))).alloc (.cells #[.int .i64 ((m : Int) / 4)] 3)) w.heap.size 3 A2 C2 (ints (nats os2))) := Lib.hid (Hh6.out.sl (k := 0) rfl)
              have HC6 : Hid (((wr.setCell ⟨w.heap.size + 1, m / 4, none⟩ (.int .i64 (os2.length : Int))).alloc (.cells #[.int .i64 ((m : Int) / 4)] 3)).cell? ⟨wr.heap.size, 0, none⟩ = some (.int .i64 ((m : Int) / 4))) := Lib.hid (by
                have := (Row.new (wr.setCell ⟨w.heap.size + 1, m / 4, none⟩ (.int .i64 (os2.length : Int))) #[.int .i64 ((m : Int) / 4)] 3).cell 0
                simpa using this)
              have HB6 : Hid (w.heap.size ≤ ((wr.setCell ⟨w.heap.size + 1, m / 4, none⟩ (.int .i64 (os2.length : Int))).alloc (.cells #[.int .i64 ((m : Int) / 4)] 3)).heap.size) := Lib.hid Hh6.out.below.size
              have Hln : Hid ((ints (nats os2)).length = os2.length) := Lib.hid (natsv_len _)
              have Hlm : Hid ((ints cd2).length = cd2.length) := Lib.hid (ints_length _)
              have hcl2 : cd2.length ≤ 1000 := by have := Hcl2.out; have := Hcl.out; omega
              clear Hh Hh5
              go_wp2_with (first
                | (with_reducible refine wpList_append_one rfl (.tmp 79) (.tmp 82) 22 rfl w.heap.size 3 i0 (.int .i64 0) 8 Tryd.underlying22 hi0 hz0 hz1 hz2 rfl A2 os2.length C2 (ints (nats os2)) rfl Hln.out HO6.out _ 1 (.int .i64 ((m : Int) / 4)) rfl HC6.out rfl (by omega) (by omega) HB6.out ?_
                   intro A7 C7 w7 hO7 hT7 hA7
                   have H7 := Lib.hid (Hh6.out.grow (k := 0) rfl hO7 hT7 hA7)
                   clear hO7 hT7 hA7
                   have hb7 : w7.cell? ⟨w.heap.size + 1, m / 4, none⟩ = some (.int .i64 (os2.length : Int)) := by
                     have := H7.out.int (k := 1) (i := m / 4) rfl (by rw [Hnew.out.len]; exact hm4)
                     rw [nth_set _ _ _ _ (by rw [Hnum2.out.len]; exact hm4), if_pos rfl] at this
                     exact this
                   have H8 := Lib.hid (H7.out.call ((Below.refl _ _).alloc (Nat.le_refl _) (.cells #[.int .i64 (4 * (os2.length : Int) + (m : Int) % 4)] 3)))
                   have HO8 : Hid (Own (w7.alloc (.cells #[.int .i64 (4 * (os2.length : Int) + (m : Int) % 4)] 3)) w.heap.size 3 A3 C3 (ints cd2)) := Lib.hid (H8.out.sl (k := 1) rfl)
                   have HC8 : Hid ((w7.alloc (.cells #[.int .i64 (4 * (os2.length : Int) + (m : Int) % 4)] 3)).cell? ⟨w7.heap.size, 0, none⟩ = some (.int .i64 (4 * (os2.length : Int) + (m : Int) % 4))) := Lib.hid (by
                     have := (Row.new w7 #[.int .i64 (4 * (os2.length : Int) + (m : Int) % 4)] 3).cell 0
                     simp at this ⊢)
                   have HB8 : Hid (w.heap.size ≤ (w7.alloc (.cells #[.int .i64 (4 * (os2.length : Int) + (m : Int) % 4)] 3)).heap.size) := Lib.hid H8.out.below.size)
                | (with_reducible refine wpList_append_one rfl (.tmp 84) (.tmp 94) 22 rfl w.heap.size 3 i0 (.int .i64 0) 8 Tryd.underlying22 hi0 hz0 hz1 hz2 rfl A3 cd2.length C3 (ints cd2) rfl Hlm.out HO8.out _ 1 (.int .i64 (4 * (os2.length : Int) + (m : Int) % 4)) rfl HC8.out rfl (by omega) (by omega) HB8.out ?_
                   intro A9 C9 w9 hO9 hT9 hA9
                   have H9 := Lib.hid (H8.out.grow (k := 1) rfl hO9 hT9 hA9)
                   clear hO9 hT9 hA9))
              go_roundg (4 - (k + 1))
              case measure => omega
              case rel =>
                refine ⟨k + 1, os2 ++ [m / 4], ns2.set (m / 4) (os2.length : Int), cd2 ++ [4 * (os2.length : Int) + (m : Int) % 4], A7, A9, C7, C9, by omega, rfl, by go_num, by rw [List.length_append]; rfl, by rw [List.length_append]; rfl, by rw [List.length_append]; exact Hfew.out, Lib.hid (by rw [List.length_append, Hcl2.out]; rfl), Lib.hid Hrow.out.1, Lib.hid Hrow.out.2, Lib.hid Hnew.out, ?_⟩
                have h := H9.out
                rw [Hdiv.out, ints_nats_snoc, ints_snoc'] at h
                exact h
          · obtain rfl : k = 4 := by omega
            have Hend := Lib.hid (row_end Hos.out hio Hb.out Hos2.out Hcd.out Hcd2.out)
            clear hk4 hk

            have hil : i + 1 ≤ os2.length := by rw [Hos2.out]; exact Nat.lt_of_lt_of_le hio (ordRow_pre _ _ _ _).length_le
            go_wp2_with fail
            go_roundg (c + 1 - (i + 1))
            case measure => omega
            case rel => exact ⟨i + 1, -1, os2, ns2, cd2, A2, A3, C2, C3, hil, hol2, rfl, by go_num, rfl, rfl, Lib.hid (by rw [Hcl2.out]; omega), rfl, rfl, Lib.hid Hend.out.1, Lib.hid Hend.out.2, Lib.hid Hnum2.out, Hh.out⟩
      · have HE : Hid (os = ordL M r c ∧ cd = codeL S M r c) := Lib.hid (by
          have h1 : os = ordL M r c := by rw [Hos.out]; exact ordTo_end (by rw [← Hos.out]; omega) (by omega)
          refine ⟨h1, ?_⟩
          rw [Hcd.out, codeL, ← h1, ← Hos.out]
          congr 1; omega)
        go_wp2_with fail
        refine bodyPost_ret (v := .tuple #[.slice A' cd.length C', .slice A os.length C, .int .i64 (-1)]) (by simp [results, Tryd.results66, go_sem]) rfl ?_
        rw [← HE.out.1, ← HE.out.2]
        exact ⟨A, C, A', C', rfl, Hh.out.sl (k := 0) rfl, Hh.out.sl (k := 1) rfl, Hh.out.below⟩
set_option maxRecDepth 100000 in
set_option maxHeartbeats 1000000 in
theorem number_next (S M B : List Int) (L : Int) (aS aM aB : Option Addr) (cS cM cB : Nat) (r : Nat) (w : World) (hs : Shape S M L) (hr : r < S.length) (hS : IntsAt w aS S) (hM : IntsAt w aM M) (hB : IntsAt w aB B) (hBc : B.length ≤ cB) (hBl : B.length = 5 * (ordL M r S.length).length) :
    Calls Tryd.prog 66 #[.agg #[.slice aS S.length cS, .slice aM M.length cM, .int .i64 L], .int .i64 (r : Int), .slice aB B.length cB] w fun e w' => (0 < cmpL (codeL S M r S.length) B ∧ e = .returned (.tuple #[.slice none 0 0, .slice none 0 0, .int .i64 1]) ∧ Below w.heap.size w w') ∨ (cmpL (codeL S M r S.length) B ≤ 0 ∧ ∃ A C A' C', e = .returned (.tuple #[.slice A' (codeL S M r S.length).length C', .slice A (ordL M r S.length).length C, .int .i64 (cmpL (codeL S M r S.length) B)]) ∧ Own w' w.heap.size 3 A C (ints (nats (ordL M r S.length))) ∧ Own w' w.heap.size 3 A' C' (ints (codeL S M r S.length)) ∧ Below w.heap.size w w') := by
  have hfw := hs.few
  have HMT : Hid (∀ x, x < 4 * S.length → mt M x < 4 * S.length) := Lib.hid fun x hx => hs.mt_lt hx
  have HMt : Hid (∀ x, x < 4 * S.length → ∃ p : Nat, p < 4 * S.length ∧ nth M x = (p : Int) ∧ mt M x = p) := Lib.hid fun x hx => by
    have := hs.range x hx
    exact ⟨mt M x, hs.mt_lt hx, by unfold mt; omega, rfl⟩
  obtain ⟨bS, oS, haS, _, _⟩ := hS.open (by omega)
  obtain ⟨bM, oM, haM, _, _⟩ := hM.open (by rw [hs.len]; omega)
  subst haS haM
  have HS := Lib.hid hS
  have HM := Lib.hid hM
  have HMl := Lib.hid hs.len
  have hNb : M.length ≤ 256 := by rw [hs.len]; omega
  obtain ⟨i0, hi0, hz0, hz1, hz2⟩ := info_parts Tryd.info3
  have hmk := run_mk1 (T := 22) (z := .int .i64 0) (bytes := 8) Tryd.underlying22 Tryd.info3 rfl S.length S.length (Nat.le_refl _) (by omega) (by omega)
  have H0 := Lib.hid ((HH.start w).alloc #[.slice (some ⟨bS, oS, none⟩) S.length cS, .slice (some ⟨bM, oM, none⟩) M.length cM, .int .i64 L] 24 rfl rfl)
  have H1 := Lib.hid (H0.out.alloc (Array.replicate S.length (.int .i64 0)) 3 (b := w.heap.size + 1) (by simp) (vs := ints (List.replicate S.length 0)) (replicate_ints _))
  have HB := Lib.hid hB
  have HBl := Lib.hid hBl
  have HBc := Lib.hid hBc
  obtain ⟨bB, oB, haB, _, _⟩ := hB.open (by rw [hBl]; have := ordTo_pos M r S.length; unfold ordL; omega)
  subst haB
  clear hB hBl hBc
  have Hrn := Lib.hid hr
  clear hs hS hM
  obtain ⟨N, hNe⟩ : ∃ N, N = M.length := ⟨_, rfl⟩
  have HNe := Lib.hid hNe
  generalize hn : S.length = n at *
  have Hn := Lib.hid hn
  clear hn
  have HNl : Hid (N = 4 * n) := Lib.hid (by rw [hNe, HMl.out])
  rw [← hNe] at H0 H1 hNb ⊢
  clear hNe HMl
  have hNlo : 4 * n ≤ N := by rw [HNl.out]; exact Nat.le_refl _
  have hNhi : N ≤ 4 * n := by rw [HNl.out]; exact Nat.le_refl _
  have k0 := H0.out.cell (k := 0) (i := 0) rfl rfl
  have k1 := H0.out.cell (k := 0) (i := 1) rfl rfl
  have k2 := H1.out.cell (k := 0) (i := 0) rfl rfl
  have qT : ∀ (w : World) (a : Option Addr) (n c n' c' : Nat), (binOp .eql 22 (.slice a n c) (.slice none n' c')).run Tryd.prog w = .ok (.bool a.isNone) w := fun w a n c n' c' => Lib.run_eql_slice_nil w _ _ a n c n' c' Tryd.underlying22
  go_enter Tryd.func66, Tryd.ntmps66
  go_wp2_with fail
  clear k0 k1 k2
  go_loopg [24] n (fun g v wr => ∃ (c : Nat) (ns : List Int), c ≤ n ∧ g = n - c ∧ v = .int .i64 c ∧ ns.length = n ∧ Hid (∀ d, d < c → nth ns d = -1) ∧ HH w wr [(w.heap.size, rowO 24 [.slice (some ⟨bS, oS, none⟩) n cS, .slice (some ⟨bM, oM, none⟩) N cM, .int .i64 L]), (w.heap.size + 1, rowO 3 (ints ns))] [])
  case atStart => exact ⟨0, _, Nat.zero_le _, rfl, rfl, by simp, Lib.hid fun d hd => by omega, H1.out⟩
  case round =>
    obtain ⟨c, ns, hc, rfl, rfl, hnl, Hv, hh⟩ := hrel
    have Hh := Lib.hid hh
    clear hh H0 H1 hmk
    have Hnl := Lib.hid hnl
    by_cases hcn : c < n
    · have hb0 := Hh.out.int (k := 1) (i := c) rfl (by omega)
      have hf0 := Hh.out.frozen (k := 1) rfl c
      clear hnl
      go_wp2_with fail
      go_roundg (n - (c + 1))
      case measure => omega
      case rel =>
        refine ⟨c + 1, ns.set c (-1), by omega, rfl, by go_num, by rw [List.length_set]; exact Hnl.out, Lib.hid fun d hd => ?_, Hh.out.setInt (k := 1) rfl c (-1)⟩
        rw [nth_set _ _ _ _ (by rw [Hnl.out]; exact hcn)]
        split
        · rfl
        · exact Hv.out d (by omega)
    obtain rfl : c = n := by omega
    clear hcn hc
    have hrc := Hrn.out
    have Hnf := Lib.hid (NumF.start Hnl.out Hv.out Hrn.out)
    have Hg1 := Lib.hid (Hh.out.addSl (s := []) ((Below.refl _ _).alloc (Nat.le_refl _) (.cells #[.int .i64 (r : Int)] 3)) (((Row.new _ #[.int .i64 (r : Int)] 3).own (Nat.le_refl _))))
    have hb0 := Hg1.out.int (k := 1) (i := r) rfl (by rw [Hnl.out]; exact Hrn.out)
    have hf0 := Hg1.out.frozen (k := 1) rfl r
    have Hg2 := Lib.hid ((Hg1.out.setInt (k := 1) rfl r 0).addNil 3)
    clear Hh Hv hnl Hg1
    go_wp2_with fail
    clear hb0 hf0
    go_loopg [14, 11, 12, 13] (c + 1) (fun g v q q' u wr => ∃ (i : Nat) (V : Int) (os : List Nat) (ns cd : List Int) (A A' : Option Addr) (C C' : Nat), i ≤ os.length ∧ os.length ≤ c ∧ g = c + 1 - i ∧ v = .int .i64 (i : Int) ∧ q = .slice A os.length C ∧ q' = .slice A' cd.length C' ∧ Hid (cd.length = 5 * i) ∧ u = .int .i64 V ∧ V ≤ 0 ∧ -1 ≤ V ∧ Hid (V = cmpL (codeTo S M (ordTo M r i) i) (B.take (5 * i))) ∧ Hid (os = ordTo M r i) ∧ Hid (cd = codeTo S M (ordTo M r i) i) ∧ Hid (NumF c os ns) ∧ HH w wr [(w.heap.size, rowO 24 [.slice (some ⟨bS, oS, none⟩) c cS, .slice (some ⟨bM, oM, none⟩) N cM, .int .i64 L]), (w.heap.size + 1, rowO 3 (ints ns))] [⟨A, C, 3, ints (nats os)⟩, ⟨A', C', 3, ints cd⟩])
    case atStart =>
      refine ⟨0, 0, [r], _, [], _, none, 1, 0, Nat.zero_le _, by simp; omega, rfl, rfl, rfl, rfl, Lib.hid rfl, rfl, by omega, by omega, Lib.hid rfl, Lib.hid rfl, Lib.hid rfl, Lib.hid Hnf.out, ?_⟩
      have h := Hg2.out
      simpa [nats, ints, setO] using h
    case round =>
      obtain ⟨i, V, os, ns', cd, A, A', C, C', hi, hol, rfl, rfl, rfl, rfl, Hcl, rfl, hV0, hV1, HV, Hos, Hcd, Hnum, hh⟩ := hrel
      have Hh := Lib.hid hh
      clear hh Hg2 Hnf
      have hcdl : cd.length ≤ 1000 := by have := Hcl.out; omega
      by_cases hio : i < os.length
      · obtain ⟨b, hb⟩ : ∃ b, b = os.getD i 0 := ⟨_, rfl⟩
        have Hb := Lib.hid hb
        have hbc : b < c := by
          rw [hb, Hos.out]
          rw [Hos.out] at hio
          exact ordTo_lt HMT.out Hrn.out i _ (by rw [List.getD_eq_getElem?_getD, List.getElem?_eq_getElem hio]; exact List.getElem_mem hio)
        clear hb
        obtain ⟨bo, oo, rfl, _, _, hcR, _⟩ := (Hh.out.sl (k := 0) rfl).open (by show 0 < (ints (nats os)).length; rw [natsv_len]; omega)
        have hc0 : wr.cell? ⟨bo, oo + i, none⟩ = some (.int .i64 (b : Int)) := hcR i _ (by show (ints (nats os))[i]? = _; rw [Hb.out]; unfold ints nats; rw [List.getD_eq_getElem?_getD, List.getElem?_map, List.getElem?_map, List.getElem?_eq_getElem hio]; rfl)
        clear hcR
        have kk0 := Hh.out.cell (k := 0) (i := 0) rfl rfl
        obtain ⟨_, _, e, _, hcS⟩ := (Hh.out.came HS.out).open (by have := Hn.out; omega)
        cases e
        have hsb := hcS b (by have := Hn.out; omega)
        clear hcS
        have Hh6 := Lib.hid (Hh.out.call ((Below.refl _ _).alloc (Nat.le_refl _) (.cells #[.int .i64 (nth S b)] 3)))
        have HO6 : Hid (Own (wr.alloc (.cells #[.int .i64 (nth S b)] 3)) w.heap.size 3 A' C' (ints cd)) := Lib.hid (Hh6.out.sl (k := 1) rfl)
        have HC6 : Hid ((wr.alloc (.cells #[.int .i64 (nth S b)] 3)).cell? ⟨wr.heap.size, 0, none⟩ = some (.int .i64 (nth S b))) := Lib.hid (by
          have := (Row.new wr #[.int .i64 (nth S b)] 3).cell 0
          simp at this ⊢)
        have HB6 : Hid (w.heap.size ≤ (wr.alloc (.cells #[.int .i64 (nth S b)] 3)).heap.size) := Lib.hid Hh6.out.below.size
        have Hln : Hid ((ints cd).length = cd.length) := Lib.hid (ints_length _)
        clear Hh
        go_wp2_with (with_reducible refine wpList_append_one rfl (.tmp 48) (.tmp 54) 22 rfl w.heap.size 3 i0 (.int .i64 0) 8 Tryd.underlying22 hi0 hz0 hz1 hz2 rfl A' cd.length C' (ints cd) rfl Hln.out HO6.out _ 1 (.int .i64 (nth S b)) rfl HC6.out rfl (by omega) (by omega) HB6.out ?_; intro A7 C7 w7 hO7 hT7 hA7; have H7 := Lib.hid (Hh6.out.grow (k := 1) rfl hO7 hT7 hA7); clear hO7 hT7 hA7)
        clear hc0 kk0 hsb Hh6 HO6 HC6 HB6 Hln
        go_loopg [56, 11, 12] 4 (fun g v q q' wr => ∃ (k : Nat) (os2 : List Nat) (ns2 cd2 : List Int) (A A' : Option Addr) (C C' : Nat), k ≤ 4 ∧ g = 4 - k ∧ v = .int .i64 (k : Int) ∧ q = .slice A os2.length C ∧ q' = .slice A' cd2.length C' ∧ os2.length ≤ c ∧ Hid (cd2.length = 5 * i + k + 1) ∧ Hid (os2 = ordRow M b k os) ∧ Hid (cd2 = cd ++ rowC S M os2 b k) ∧ Hid (NumF c os2 ns2) ∧ HH w wr [(w.heap.size, rowO 24 [.slice (some ⟨bS, oS, none⟩) c cS, .slice (some ⟨bM, oM, none⟩) N cM, .int .i64 L]), (w.heap.size + 1, rowO 3 (ints ns2))] [⟨A, C, 3, ints (nats os2)⟩, ⟨A', C', 3, ints cd2⟩])
        case atStart =>
          refine ⟨0, os, ns', cd ++ [nth S b], _, A7, C, C7, by omega, rfl, rfl, rfl, by rw [List.length_append]; rfl, hol, Lib.hid (by rw [List.length_append, Hcl.out]; rfl), Lib.hid rfl, Lib.hid (by rw [rowC_zero]), Lib.hid Hnum.out, ?_⟩
          have h := H7.out
          rw [ints_snoc'] at h
          exact h
        case round =>
          obtain ⟨k, os2, ns2, cd2, A2, A3, C2, C3, hk, rfl, rfl, rfl, rfl, hol2, Hcl2, Hos2, Hcd2, Hnum2, hh⟩ := hrel
          have Hh := Lib.hid hh
          clear hh H7
          by_cases hk4 : k < 4
          · have hk5 : 4 * b + k < 4 * c := by omega
            obtain ⟨m, hml, hmv, hmm⟩ := HMt.out (4 * b + k) hk5
            obtain ⟨_, _, e, _, hcM⟩ := (Hh.out.came HM.out).open (by have := HNe.out; omega)
            cases e
            have hcm := hcM (4 * b + k) (by have := HNe.out; omega)
            rw [hmv] at hcm
            clear hcM
            have Hmm := Lib.hid hmm
            clear hmv hmm
            have kk1 := Hh.out.cell (k := 0) (i := 1) rfl rfl
            have hm4 : m / 4 < c := by omega
            have hbs := Hh.out.int (k := 1) (i := m / 4) rfl (by rw [Hnum2.out.len]; exact hm4)
            have hbf := Hh.out.frozen (k := 1) rfl (m / 4)
            rw [Hnum2.out.val (m / 4) hm4] at hbs
            by_cases hin : m / 4 ∈ os2
            · rw [if_pos hin] at hbs
              have Hin := Lib.hid hin
              have hx := List.idxOf_lt_length_of_mem hin
              clear hin
              obtain ⟨x, hxe⟩ : ∃ x, x = os2.idxOf (m / 4) := ⟨_, rfl⟩
              rw [← hxe] at hbs hx
              have Hxe := Lib.hid hxe
              clear hxe
              have t1 : decide ((x : Int) < 0) = false := decide_eq_false (by omega)
              have Hrow := Lib.hid (row_old Hos2.out Hmm.out Hin.out Hcd2.out Hxe.out)
              have Hh6 := Lib.hid (Hh.out.call ((Below.refl _ _).alloc (Nat.le_refl _) (.cells #[.int .i64 (4 * (x : Int) + (m : Int) % 4)] 3)))
              have HO6 : Hid (Own (wr.alloc (.cells #[.int .i64 (4 * (x : Int) + (m : Int) % 4)] 3)) w.heap.size 3 A3 C3 (ints cd2)) := Lib.hid (Hh6.out.sl (k := 1) rfl)
              have HC6 : Hid ((wr.alloc (.cells #[.int .i64 (4 * (x : Int) + (m : Int) % 4)] 3)).cell? ⟨wr.heap.size, 0, none⟩ = some (.int .i64 (4 * (x : Int) + (m : Int) % 4))) := Lib.hid (by
                have := (Row.new wr #[.int .i64 (4 * (x : Int) + (m : Int) % 4)] 3).cell 0
                simp at this ⊢)
              have HB6 : Hid (w.heap.size ≤ (wr.alloc (.cells #[.int .i64 (4 * (x : Int) + (m : Int) % 4)] 3)).heap.size) := Lib.hid Hh6.out.below.size
              have Hln : Hid ((ints cd2).length = cd2.length) := Lib.hid (ints_length _)
              have hcl2 : cd2.length ≤ 1000 := by have := Hcl2.out; have := Hcl.out; omega
              clear Hh
              go_wp2_with (with_reducible refine wpList_append_one rfl (.tmp 84) (.tmp 94) 22 rfl w.heap.size 3 i0 (.int .i64 0) 8 Tryd.underlying22 hi0 hz0 hz1 hz2 rfl A3 cd2.length C3 (ints cd2) rfl Hln.out HO6.out _ 1 (.int .i64 (4 * (x : Int) + (m : Int) % 4)) rfl HC6.out rfl (by omega) (by omega) HB6.out ?_; intro A7 C7 w7 hO7 hT7 hA7; have H7 := Lib.hid (Hh6.out.grow (k := 1) rfl hO7 hT7 hA7); clear hO7 hT7 hA7)
              go_roundg (4 - (k + 1))
              case measure => omega
              case rel =>
                refine ⟨k + 1, os2, ns2, cd2 ++ [4 * (x : Int) + (m : Int) % 4], A2, A7, C2, C7, by omega, rfl, by go_num, rfl, by rw [List.length_append]; rfl, hol2, Lib.hid (by rw [List.length_append, Hcl2.out]; rfl), Lib.hid Hrow.out.1, Lib.hid Hrow.out.2, Lib.hid Hnum2.out, ?_⟩
                have h := H7.out
                rw [ints_snoc'] at h
                exact h
            · rw [if_neg hin] at hbs
              have Hrow := Lib.hid (row_new Hos2.out Hmm.out hin Hcd2.out)
              have Hnew : Hid (NumF c (os2 ++ [m / 4]) (ns2.set (m / 4) (os2.length : Int))) := Lib.hid (by
                have := Hnum2.out.add hm4 hin
                unfold addN at this
                rw [if_neg hin] at this
                exact this)
              have Hfew : Hid (os2.length + 1 ≤ c) := Lib.hid (by
                have := ordRow_few HMT.out Hrn.out Hos.out hbc (show k + 1 ≤ 4 by omega)
                rw [← Hrow.out.1, List.length_append] at this
                exact this)
              have hfew := Hfew.out
              clear hin
              have Hdiv : Hid ((m : Int) / 4 = ((m / 4 : Nat) : Int)) := Lib.hid (by omega)
              have Hh5 := Lib.hid (Hh.out.setInt (k := 1) rfl (m / 4) (os2.length : Int))
              have Hh6 := Lib.hid (Hh5.out.call ((Below.refl _ _).alloc (Nat.le_refl _) (.cells #[.int .i64 ((m : Int) / 4)] 3)))
              have HO6 : Hid (Own ((wr.setCell ⟨w.heap.size + 1, m / 4, none⟩ (.int .i64 (os2.length : Int))).alloc (.cells #[.int .i64 ((m : Int) / 4)] 3)) w.heap.size 3 A2 C2 (ints (nats os2))) := Lib.hid (Hh6.out.sl (k := 0) rfl)
              have HC6 : Hid (((wr.setCell ⟨w.heap.size + 1, m / 4, none⟩ (.int .i64 (os2.length : Int))).alloc (.cells #[.int .i64 ((m : Int) / 4)] 3)).cell? ⟨wr.heap.size, 0, none⟩ = some (.int .i64 ((m : Int) / 4))) := Lib.hid (by
                have := (Row.new (wr.setCell ⟨w.heap.size + 1, m / 4, none⟩ (.int .i64 (os2.length : Int))) #[.int .i64 ((m : Int) / 4)] 3).cell 0
                simpa using this)
              have HB6 : Hid (w.heap.size ≤ ((wr.setCell ⟨w.heap.size + 1, m / 4, none⟩ (.int .i64 (os2.length : Int))).alloc (.cells #[.int .i64 ((m : Int) / 4)] 3)).heap.size) := Lib.hid Hh6.out.below.size
              have Hln : Hid ((ints (nats os2)).length = os2.length) := Lib.hid (natsv_len _)
              have Hlm : Hid ((ints cd2).length = cd2.length) := Lib.hid (ints_length _)
              have hcl2 : cd2.length ≤ 1000 := by have := Hcl2.out; have := Hcl.out; omega
              clear Hh Hh5
              go_wp2_with (first
                | (with_reducible refine wpList_append_one rfl (.tmp 79) (.tmp 82) 22 rfl w.heap.size 3 i0 (.int .i64 0) 8 Tryd.underlying22 hi0 hz0 hz1 hz2 rfl A2 os2.length C2 (ints (nats os2)) rfl Hln.out HO6.out _ 1 (.int .i64 ((m : Int) / 4)) rfl HC6.out rfl (by omega) (by omega) HB6.out ?_
                   intro A7 C7 w7 hO7 hT7 hA7
                   have H7 := Lib.hid (Hh6.out.grow (k := 0) rfl hO7 hT7 hA7)
                   clear hO7 hT7 hA7
                   have hb7 : w7.cell? ⟨w.heap.size + 1, m / 4, none⟩ = some (.int .i64 (os2.length : Int)) := by
                     have := H7.out.int (k := 1) (i := m / 4) rfl (by rw [Hnew.out.len]; exact hm4)
                     rw [nth_set _ _ _ _ (by rw [Hnum2.out.len]; exact hm4), if_pos rfl] at this
                     exact this
                   have H8 := Lib.hid (H7.out.call ((Below.refl _ _).alloc (Nat.le_refl _) (.cells #[.int .i64 (4 * (os2.length : Int) + (m : Int) % 4)] 3)))
                   have HO8 : Hid (Own (w7.alloc (.cells #[.int .i64 (4 * (os2.length : Int) + (m : Int) % 4)] 3)) w.heap.size 3 A3 C3 (ints cd2)) := Lib.hid (H8.out.sl (k := 1) rfl)
                   have HC8 : Hid ((w7.alloc (.cells #[.int .i64 (4 * (os2.length : Int) + (m : Int) % 4)] 3)).cell? ⟨w7.heap.size, 0, none⟩ = some (.int .i64 (4 * (os2.length : Int) + (m : Int) % 4))) := Lib.hid (by
                     have := (Row.new w7 #[.int .i64 (4 * (os2.length : Int) + (m : Int) % 4)] 3).cell 0
                     simp at this ⊢)
                   have HB8 : Hid (w.heap.size ≤ (w7.alloc (.cells #[.int .i64 (4 * (os2.length : Int) + (m : Int) % 4)] 3)).heap.size) := Lib.hid H8.out.below.size)
                | (with_reducible refine wpList_append_one rfl (.tmp 84) (.tmp 94) 22 rfl w.heap.size 3 i0 (.int .i64 0) 8 Tryd.underlying22 hi0 hz0 hz1 hz2 rfl A3 cd2.length C3 (ints cd2) rfl Hlm.out HO8.out _ 1 (.int .i64 (4 * (os2.length : Int) + (m : Int) % 4)) rfl HC8.out rfl (by omega) (by omega) HB8.out ?_
                   intro A9 C9 w9 hO9 hT9 hA9
                   have H9 := Lib.hid (H8.out.grow (k := 1) rfl hO9 hT9 hA9)
                   clear hO9 hT9 hA9))
              go_roundg (4 - (k + 1))
              case measure => omega
              case rel =>
                refine ⟨k + 1, os2 ++ [m / 4], ns2.set (m / 4) (os2.length : Int), cd2 ++ [4 * (os2.length : Int) + (m : Int) % 4], A7, A9, C7, C9, by omega, rfl, by go_num, by rw [List.length_append]; rfl, by rw [List.length_append]; rfl, by rw [List.length_append]; exact Hfew.out, Lib.hid (by rw [List.length_append, Hcl2.out]; rfl), Lib.hid Hrow.out.1, Lib.hid Hrow.out.2, Lib.hid Hnew.out, ?_⟩
                have h := H9.out
                rw [Hdiv.out, ints_nats_snoc, ints_snoc'] at h
                exact h
          · obtain rfl : k = 4 := by omega
            have Hend := Lib.hid (row_end Hos.out hio Hb.out Hos2.out Hcd.out Hcd2.out)
            clear hk4 hk

            have hil : i + 1 ≤ os2.length := by rw [Hos2.out]; exact Nat.lt_of_lt_of_le hio (ordRow_pre _ _ _ _).length_le
            have HBi : Hid (5 * i + 5 ≤ B.length) := Lib.hid (by
              rw [HBl.out]
              have h1 : (ordTo M r (i + 1)).length ≤ (ordL M r c).length := (ordTo_pre M r (show i + 1 ≤ c by omega)).length_le
              rw [← Hend.out.1] at h1
              omega)
            have HVE : Hid (cmpL cd (B.take (5 * i)) = V) := Lib.hid (by rw [HV.out, Hcd.out])
            by_cases hV : V = 0
            · subst hV
              have HL2 : Hid (cd2.length = 5 * i + 5) := Lib.hid (by rw [Hcl2.out])
              have hs1 : ∀ W, (Instr.slice 22 (.slice A3 cd2.length C3) (some (.int .i64 (5 * (i : Int)))) none none).run Tryd.prog W = .ok (.slice (fromA A3 (5 * i) C3) 5 (C3 - 5 * i)) W := fun W => by
                have h := run_from' Tryd.underlying22 hi0 hz1 A3 cd2.length C3 (5 * i) (by rw [HL2.out]; omega) (5 * (i : Int)) (by omega) W
                rw [show cd2.length - 5 * i = 5 by rw [HL2.out]; omega] at h
                exact h
              have hs2 : ∀ W, (Instr.slice 22 (.slice (some ⟨bB, oB, none⟩) B.length cB) (some (.int .i64 (5 * (i : Int)))) (some (.int .i64 (5 * (i : Int) + 5))) none).run Tryd.prog W = .ok (.slice (fromA (some ⟨bB, oB, none⟩) (5 * i) cB) 5 (cB - 5 * i)) W := fun W => by
                have h := run_mid' Tryd.underlying22 hi0 hz1 (some ⟨bB, oB, none⟩) B.length cB (5 * i) (5 * i + 5) (by omega) (by have := HBi.out; have := HBc.out; omega) (5 * (i : Int)) (5 * (i : Int) + 5) (by omega) (by omega) W
                rw [show 5 * i + 5 - 5 * i = 5 by omega] at h
                exact h
              have HX : Hid (∀ q, IntsAt (wr.drewN q) (fromA A3 (5 * i) C3) (cd2.drop (5 * i))) := Lib.hid fun q => by
                have ho := ((Hh.out.drewN q).sl (k := 1) rfl)
                refine IntsAt.from (Own.ints ho) ?_
                have := Own.cap ho
                rw [ints_length] at this
                exact this
              have HY : Hid (∀ q, IntsAt (wr.drewN q) (fromA (some ⟨bB, oB, none⟩) (5 * i) cB) ((B.drop (5 * i)).take 5)) := Lib.hid fun q => (IntsAt.from ((Hh.out.drewN q).came HB.out) HBc.out).take 5
              have HXl : Hid ((cd2.drop (5 * i)).length = 5) := Lib.hid (by rw [List.length_drop, HL2.out]; omega)
              have HYl : Hid (((B.drop (5 * i)).take 5).length = 5) := Lib.hid (by rw [List.length_take, List.length_drop]; have := HBi.out; omega)
              have Hres : Hid (cmpL (codeTo S M (ordTo M r (i + 1)) (i + 1)) (B.take (5 * (i + 1))) = cmpL (cd2.drop (5 * i)) ((B.drop (5 * i)).take 5)) := Lib.hid (by
                rw [← Hend.out.2, Hcd2.out]
                exact cmp_row Hcl.out HBi.out HVE.out)
              generalize fromA A3 (5 * i) C3 = a1 at *
              generalize C3 - 5 * i = c1 at *
              generalize fromA (some ⟨bB, oB, none⟩) (5 * i) cB = a2 at *
              generalize cB - 5 * i = c2 at *
              have HQ : Hid (∀ q, Calls Tryd.prog 69 #[.slice a1 5 c1, .slice a2 5 c2] (wr.drewN q) fun e w' => e = .returned (.int .i64 (cmpL (cd2.drop (5 * i)) ((B.drop (5 * i)).take 5))) ∧ w' = wr.drewN q) := Lib.hid fun q => by
                have h := compare_any (cd2.drop (5 * i)) ((B.drop (5 * i)).take 5) a1 a2 c1 c2 (wr.drewN q) (by rw [HXl.out]; omega) (by rw [HYl.out]; omega) (HX.out q) (HY.out q)
                rw [HXl.out, HYl.out] at h
                exact h
              generalize hq : cmpL (cd2.drop (5 * i)) ((B.drop (5 * i)).take 5) = Q at *
              have hq1 : Q = -1 ∨ Q = 0 ∨ Q = 1 := by rw [← hq]; exact cmpL_vals _ _
              clear hq
              by_cases hQ : 0 < Q
              · have t1 : decide (Q > 0) = true := decide_eq_true hQ
                have HF : Hid (0 < cmpL (codeL S M r c) B) := Lib.hid (by
                  have hl : (codeTo S M (ordTo M r (i + 1)) (i + 1)).length = 5 * (i + 1) := codeTo_len _ _ _ _
                  have h := cmpL_pre (s := codeTo S M (ordTo M r (i + 1)) (i + 1)) (s' := codeL S M r c) (t := B) (codeTo_codeL (by rw [← Hend.out.1]; exact hil) (by omega)) (by rw [hl]; have := HBi.out; omega) (by rw [hl, Hres.out]; omega)
                  rw [hl, Hres.out] at h
                  omega)
                have hbel := Lib.hid Hh.out.below
                clear Hh hQ hq1
                go_wp2_with fail
                go_quiet ((go_at_call 69; exact Calls.quiet_of_same (HQ.out _)))
                go_wp2_with fail
                refine bodyPost_ret (v := .tuple #[.slice none 0 0, .slice none 0 0, .int .i64 1]) (by simp [results, Tryd.results66, go_sem]) rfl ?_
                exact .inl ⟨HF.out, rfl, below_drewNN hbel.out _⟩
              · have t1 : decide (Q > 0) = false := decide_eq_false hQ
                go_wp2_with fail
                go_quiet ((go_at_call 69; exact Calls.quiet_of_same (HQ.out _)))
                go_wp2_with fail
                go_roundg (c + 1 - (i + 1))
                case measure => omega
                case rel => exact ⟨i + 1, Q, os2, ns2, cd2, A2, A3, C2, C3, hil, hol2, rfl, by go_num, rfl, rfl, Lib.hid (by rw [Hcl2.out]; omega), rfl, by omega, by omega, Lib.hid Hres.out.symm, Lib.hid Hend.out.1, Lib.hid Hend.out.2, Lib.hid Hnum2.out, Hh.out.drewN _⟩
            · have hVm : V = -1 := by omega
              subst hVm
              have Hres : Hid (-1 = cmpL (codeTo S M (ordTo M r (i + 1)) (i + 1)) (B.take (5 * (i + 1)))) := Lib.hid (by
                rw [← Hend.out.2, Hcd2.out, cmp_row_neg Hcl.out HBi.out (by rw [HVE.out]; omega), HVE.out])
              clear hV
              go_wp2_with fail
              go_roundg (c + 1 - (i + 1))
              case measure => omega
              case rel => exact ⟨i + 1, -1, os2, ns2, cd2, A2, A3, C2, C3, hil, hol2, rfl, by go_num, rfl, rfl, Lib.hid (by rw [Hcl2.out]; omega), rfl, by omega, by omega, Hres, Lib.hid Hend.out.1, Lib.hid Hend.out.2, Lib.hid Hnum2.out, Hh.out⟩
      · have HE : Hid (os = ordL M r c ∧ cd = codeL S M r c) := Lib.hid (by
          have h1 : os = ordL M r c := by rw [Hos.out]; exact ordTo_end (by rw [← Hos.out]; omega) (by omega)
          refine ⟨h1, ?_⟩
          rw [Hcd.out, codeL, ← h1, ← Hos.out]
          congr 1; omega)
        have HVE : Hid (cmpL (codeL S M r c) B = V) := Lib.hid (by
          have h := HV.out
          rw [← Hcd.out, HE.out.2, List.take_of_length_le (by rw [HBl.out, ← HE.out.1]; omega)] at h
          exact h.symm)
        go_wp2_with fail
        refine bodyPost_ret (v := .tuple #[.slice A' cd.length C', .slice A os.length C, .int .i64 V]) (by simp [results, Tryd.results66, go_sem]) rfl ?_
        rw [HVE.out, ← HE.out.1, ← HE.out.2]
        exact .inr ⟨hV0, A, C, A', C', rfl, Hh.out.sl (k := 0) rfl, Hh.out.sl (k := 1) rfl, Hh.out.below⟩
end Go.Proofs.YtmhhjchnjaefhaaDoor


