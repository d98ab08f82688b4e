/- The walk of the reference's SwitchAll at a diagram with a crossing. -/
import Derived.Test.YtkopbcehfbmnmaaRTab
namespace Go.Proofs.Ytkopbcehfbmnmaa
open Go Go.RowKit
theorem row_neR {w : World} {b b' : Nat} {E E' : TypeId} {vs vs' : List Value} (h : Row w b E vs) (h' : Row w b' E' vs') (hE : E ≠ E') : b ≠ b' := fun e => by
  rw [e] at h
  unfold Row at h h'
  rw [h] at h'
  simp only [Option.some.injEq, Obj.cells.injEq] at h'
  exact hE h'.2.1
/-- What a reference's operation returns: slices of its own. -/
def RfR (w : World) (nS nM : Nat) (S' M' : List Int) (L : Int) (e : Ending) (w' : World) : Prop :=
  ∃ (a b : Option Addr) (c d : Nat), e = .returned (.agg #[.slice a nS c, .slice b nM d, .int .i64 L]) ∧ Own w' w.heap.size 3 a c (ints S') ∧ Own w' w.heap.size 3 b d (ints M') ∧ Below w.heap.size w w'
theorem Own.box {w : World} {B : Nat} {a : Option Addr} {c q : Nat} {vs : List Value} {x0 x1 x2 : Value} (h : Own w B 3 a c vs) (hq : Row w q 24 [x0, x1, x2]) (u0 u1 u2 : Value) : Own (((w.setCell ⟨q, 0, none⟩ u0).setCell ⟨q, 1, none⟩ u1).setCell ⟨q, 2, none⟩ u2) B 3 a c vs :=
  ((h.setOther hq (by decide) 0 u0).setOther (hq.set 0 u0) (by decide) 1 u1).setOther ((hq.set 0 u0).set 1 u1) (by decide) 2 u2
/-- SwitchAll's lists behind k rounds. -/
def saT (S : List Int) (ch : Nat → Bool) (k : Nat) : List Int := lst S.length fun x => if x < k then swB S ch x else 0
def saS (S : List Int) (ch : Nat → Bool) (k : Nat) : List Int := lst S.length fun x => if x < k then nth S x * swS ch x else nth S x
theorem saT_set (S : List Int) (ch : Nat → Bool) (k : Nat) (hk : k < S.length) : (saT S ch k).set k (swB S ch k) = saT S ch (k + 1) := lst_set hk (by rw [if_pos (by omega)]) fun x _ hx => by
  by_cases g : x < k
  · rw [if_pos g, if_pos (by omega)]
  · rw [if_neg g, if_neg (by omega)]
theorem saS_set (S : List Int) (ch : Nat → Bool) (k : Nat) (hk : k < S.length) : (saS S ch k).set k (nth S k * swS ch k) = saS S ch (k + 1) := lst_set hk (by rw [if_pos (by omega)]) fun x _ hx => by
  by_cases g : x < k
  · rw [if_pos g, if_pos (by omega)]
  · rw [if_neg g, if_neg (by omega)]
theorem saT_stay (S : List Int) (ch : Nat → Bool) (k : Nat) (h : ch k = false) : saT S ch (k + 1) = saT S ch k := lst_congr fun x _ => by
  by_cases g : x < k
  · rw [if_pos g, if_pos (by omega)]
  · rw [if_neg g]
    by_cases e : x = k
    · rw [if_pos (by omega), e]; unfold swB; rw [h]; rfl
    · rw [if_neg (by omega)]
theorem saS_stay (S : List Int) (ch : Nat → Bool) (k : Nat) (h : ch k = false) : saS S ch (k + 1) = saS S ch k := lst_congr fun x _ => by
  by_cases g : x < k
  · rw [if_pos g, if_pos (by omega)]
  · rw [if_neg g]
    by_cases e : x = k
    · rw [if_pos (by omega), e]; unfold swS; rw [h]; simp
    · rw [if_neg (by omega)]
theorem saS_all (S : List Int) (ch : Nat → Bool) : saS S ch S.length = mulS S (swS ch) := (lst_ext (mulS_len _ _) fun x hx => by rw [nth_mulS _ _ _ hx, if_pos hx]).symm
theorem saS_zero (S : List Int) (ch : Nat → Bool) : saS S ch 0 = S := (lst_ext rfl fun x _ => by rw [if_neg (by omega)]).symm
theorem saT_move (S M : List Int) (ch : Nat → Bool) (hM : M.length = 4 * S.length) (hmt : ∀ x, x < 4 * S.length → mt M x < 4 * S.length) : mvL (rturn (saT S ch S.length)) M = mvL (trn (swB S ch)) M := mvL_congr hM hmt fun x hx => by
  unfold rturn trn saT
  rw [lst_nth (by omega), if_pos (by omega)]
set_option maxRecDepth 100000 in
set_option maxHeartbeats 16000000 in
theorem switchAll_some (S M : List Int) (L : Int) (aS aM : Option Addr) (cS cM bK : Nat) (K : List Bool) (ch : Nat → Bool) (w : World) (hv : vldB S M L = true) (h0S : 0 < S.length) (hKl : K.length = S.length) (hch : ∀ c, c < S.length → bth K c = ch c) (hS : IntsAt w aS S) (hM : IntsAt w aM M) (hK : Row w bK 4 (bools K)) :
    Calls Try.prog 117 #[.agg #[.slice aS S.length cS, .slice aM M.length cM, .int .i64 L], .slice (some ⟨bK, 0, none⟩) S.length S.length] w (RfR w S.length M.length (mulS S (swS ch)) (mvL (trn (swB S ch)) M) L) := by
  obtain ⟨b', o', rfl, _⟩ := hS.open h0S
  have hs := vldB_shape hv
  have hS64 := hs.few
  have hM256 : M.length ≤ 256 := by have := hs.len; omega
  have Hs := Lib.hid hs
  obtain ⟨W, hW⟩ : ∃ W, W = (w.alloc (.cells #[.slice (some ⟨b', o', none⟩) S.length cS, .slice aM M.length cM, .int .i64 L] 24)).alloc (.cells #[.slice none 0 0, .slice none 0 0, .int .i64 0] 24) := ⟨_, rfl⟩
  have h0 : HH w W [(w.heap.size, rowO 24 [.slice (some ⟨b', o', none⟩) S.length cS, .slice aM M.length cM, .int .i64 L]), (w.heap.size + 1, rowO 24 [.slice none 0 0, .slice none 0 0, .int .i64 0])] [] := by
    rw [hW]; exact ((HH.start w).alloc #[.slice (some ⟨b', o', none⟩) S.length cS, .slice aM M.length cM, .int .i64 L] 24 rfl rfl).alloc #[.slice none 0 0, .slice none 0 0, .int .i64 0] 24 (by simp) rfl
  have H0 := Lib.hid h0
  have hmk := run_mk S.length (by omega)
  have HSM := Lib.hid (And.intro hS hM)
  have HK := Lib.hid (And.intro hK (And.intro hKl hch))
  clear hs hv hS hM hK hKl hch h0
  go_enter Try.func117, Try.ntmps117
  go_upto_region 1 with fail
  rw [← hW]
  clear hW
  have hc0_0 := H0.out.cell (k := 0) (i := 0) rfl rfl
  go_upto_region 2 with fail
  obtain ⟨v, hv⟩ : ∃ x, x = W.alloc (.cells (Array.replicate S.length (.int .i64 0)) 3) := ⟨_, rfl⟩
  rw [← hv]
  have h1 : HH w v [(w.heap.size, rowO 24 [.slice (some ⟨b', o', none⟩) S.length cS, .slice aM M.length cM, .int .i64 L]), (w.heap.size + 1, rowO 24 [.slice none 0 0, .slice none 0 0, .int .i64 0]), (W.heap.size, rowO 3 (ints (saT S ch 0)))] [] := by
    have e : saT S ch 0 = List.replicate S.length (0 : Int) := (zero_lst S.length (swB S ch)).symm
    rw [hv, e]; exact H0.out.alloc _ 3 rfl (zeros_ints _)
  obtain ⟨bT, hbT⟩ : ∃ x, x = W.heap.size := ⟨_, rfl⟩
  rw [← hbT] at h1
  rw [← hbT]
  have H1 := Lib.hid h1
  clear hbT hv h1 H0 hc0_0
  have hbe : Below v.heap.size v (v.alloc (.cells #[] 3)) := (Below.refl _ _).alloc (Nat.le_refl _) _
  obtain ⟨aG, cG, v2, hrun, hown, hb2⟩ := run_append_cp (v.alloc (.cells #[] 3)) v.heap.size v.heap.size (Nat.le_refl _) (Row.new v #[] 3) S (some ⟨b', o', none⟩) cS 22 (by omega) ((H1.out.came HSM.out.1).later hbe)
  have Hrun := Lib.hid hrun
  have H2 : Hid (HH w v2 [(w.heap.size, rowO 24 [.slice (some ⟨b', o', none⟩) S.length cS, .slice aM M.length cM, .int .i64 L]), (w.heap.size + 1, rowO 24 [.slice none 0 0, .slice none 0 0, .int .i64 0]), (bT, rowO 3 (ints (saT S ch 0)))] [⟨aG, cG, 3, ints (saS S ch 0)⟩]) := Lib.hid (by
    rw [saS_zero]; exact H1.out.addSl (below_step hbe hb2) hown)
  have hc0_0 : (v.alloc (.cells #[] 3)).cell? ⟨w.heap.size, 0, none⟩ = some (.slice (some ⟨b', o', none⟩) S.length cS) := (H1.out.call hbe).cell (k := 0) (i := 0) rfl rfl
  clear hrun hown hb2 hbe
  go_wp2_with (refine wpList_append_all rfl (.tmp 12) (.tmp 14) rfl (.slice (some ⟨v.heap.size, 0, none⟩) 0 0) (.slice (some ⟨b', o', none⟩) S.length cS) _ _ rfl rfl Hrun.out ?_)
  clear hc0_0 H1 Hrun
  go_loopg [7] S.length (fun g t wr => ∃ c : Nat, c ≤ S.length ∧ g = S.length - c ∧ t = .int .i64 c ∧ HH w wr [(w.heap.size, rowO 24 [.slice (some ⟨b', o', none⟩) S.length cS, .slice aM M.length cM, .int .i64 L]), (w.heap.size + 1, rowO 24 [.slice none 0 0, .slice none 0 0, .int .i64 0]), (bT, rowO 3 (ints (saT S ch c)))] [⟨aG, cG, 3, ints (saS S ch c)⟩])
  case atStart => exact ⟨0, Nat.zero_le _, rfl, rfl, H2.out⟩
  case round =>
    clear H2
    obtain ⟨c, hc, rfl, rfl, hk⟩ := hrel
    have Hk := Lib.hid hk
    clear hk
    by_cases hl : c < S.length
    · have hkl : c < K.length := by rw [HK.out.2.1]; exact hl
      have hkc := (HK.out.1.later Hk.out.below HK.out.1.lt).bool c hkl
      rw [HK.out.2.2 c hl] at hkc
      have hbd : Hid (swB S ch c = if ch c = true then (if nth S c = 1 then -3 else -1) else 0) := Lib.hid rfl
      have hsd : Hid (swS ch c = if ch c = true then -1 else 1) := Lib.hid rfl
      have Htl : Hid (c < (saT S ch c).length ∧ c < (ints (saS S ch c)).length ∧ c < (saS S ch c).length) := Lib.hid ⟨by unfold saT; rw [lst_len]; exact hl, by unfold saS; rw [ints_length, lst_len]; exact hl, by unfold saS; rw [lst_len]; exact hl⟩
      by_cases hcc : ch c = true
      · rw [hcc] at hkc
        obtain ⟨bG, oG, rfl, _, _, hcG, hfG⟩ := (Hk.out.sl (k := 0) rfl).open (Nat.lt_of_le_of_lt (Nat.zero_le _) Htl.out.2.1)
        have hset1 := Hk.out.setInt (k := 2) rfl c (-1)
        have hT0 := Hk.out.int (k := 2) rfl c Htl.out.1
        have hT1 := Hk.out.frozen (k := 2) rfl c
        have hB0 := hset1.cell (k := 0) (i := 0) rfl rfl
        obtain ⟨b9, o9, he9, _, hcell9⟩ := (hset1.came HSM.out.1).open (by omega)
        simp only [Option.some.injEq, Addr.mk.injEq, and_true] at he9
        obtain ⟨rfl, rfl⟩ := he9
        have hS9 := hcell9 c hl
        rcases Hs.out.sign c hl with hx | hx
        · have hset2 := hset1.setInt (k := 2) rfl c (-3)
          have hT2 := hset1.int (k := 2) rfl c (by rw [List.length_set]; exact Htl.out.1)
          have hT3 := hset1.frozen (k := 2) rfl c
          have hB1 := hset2.cell (k := 0) (i := 0) rfl rfl
          obtain ⟨b8, o8, he8, _, hcell8⟩ := (hset2.came HSM.out.1).open (by omega)
          simp only [Option.some.injEq, Addr.mk.injEq, and_true] at he8
          obtain ⟨rfl, rfl⟩ := he8
          have hS8 := hcell8 c hl
          rw [hx] at hS8 hS9
          have hsl := (hset2.sl (k := 0) rfl).open (Nat.lt_of_le_of_lt (Nat.zero_le _) Htl.out.2.1)
          obtain ⟨b7, o7, he7, _, _, hcell7, hfr7⟩ := hsl
          simp only [Option.some.injEq, Addr.mk.injEq, and_true] at he7
          obtain ⟨rfl, rfl⟩ := he7
          have hG8 := hcell7 c _ (ints_get _ c Htl.out.2.2)
          have hG9 := hfr7 (oG + c)
          have hset3 := Lib.hid (hset2.slSet (k := 0) rfl c Htl.out.2.1 (.int .i64 (-1)))
          have HeT : Hid (((saT S ch c).set c (-1)).set c (-3) = saT S ch (c + 1)) := Lib.hid (by rw [List.set_set, ← saT_set S ch c hl, hbd.out, if_pos hcc, if_pos hx])
          have HeS : Hid ((ints (saS S ch c)).set c (.int .i64 (-1)) = ints (saS S ch (c + 1))) := Lib.hid (by rw [ints_set, ← saS_set S ch c hl, hsd.out, if_pos hcc, hx]; rfl)
          clear hcG hfG hset1 hset2 hcell9 hcell8 hcell7 hfr7 hx
          go_wp2_with fail
          go_roundg (S.length - (c + 1))
          case measure => omega
          case rel => exact ⟨c + 1, hl, rfl, by go_num, by rw [← HeT.out, ← HeS.out]; exact hset3.out⟩
        · rw [hx] at hS9
          have hsl := (hset1.sl (k := 0) rfl).open (Nat.lt_of_le_of_lt (Nat.zero_le _) Htl.out.2.1)
          obtain ⟨b7, o7, he7, _, _, hcell7, hfr7⟩ := hsl
          simp only [Option.some.injEq, Addr.mk.injEq, and_true] at he7
          obtain ⟨rfl, rfl⟩ := he7
          have hG8 := hcell7 c _ (ints_get _ c Htl.out.2.2)
          have hG9 := hfr7 (oG + c)
          have hset3 := Lib.hid (hset1.slSet (k := 0) rfl c Htl.out.2.1 (.int .i64 1))
          have HeT : Hid ((saT S ch c).set c (-1) = saT S ch (c + 1)) := Lib.hid (by rw [← saT_set S ch c hl, hbd.out, if_pos hcc, hx]; rfl)
          have HeS : Hid ((ints (saS S ch c)).set c (.int .i64 1) = ints (saS S ch (c + 1))) := Lib.hid (by rw [ints_set, ← saS_set S ch c hl, hsd.out, if_pos hcc, hx]; rfl)
          clear hcG hfG hset1 hcell9 hcell7 hfr7 hx
          go_wp2_with fail
          go_roundg (S.length - (c + 1))
          case measure => omega
          case rel => exact ⟨c + 1, hl, rfl, by go_num, by rw [← HeT.out, ← HeS.out]; exact hset3.out⟩
      · have hcf : ch c = false := by simpa using hcc
        rw [hcf] at hkc
        have HeT := Lib.hid (saT_stay S ch c hcf)
        have HeS := Lib.hid (saS_stay S ch c hcf)
        clear hcc hcf
        go_wp2_with fail
        go_roundg (S.length - (c + 1))
        case measure => omega
        case rel => exact ⟨c + 1, hl, rfl, by go_num, by rw [HeT.out, HeS.out]; exact Hk.out⟩
    · obtain rfl : c = S.length := by omega
      have Hd := Lib.hid Hk.out.drew
      have HM : Hid (Calls Try.prog 119 #[.agg #[.slice (some ⟨b', o', none⟩) S.length cS, .slice aM M.length cM, .int .i64 L], .slice (some ⟨bT, 0, none⟩) S.length S.length, .bool false] wr.drew fun e w' => ∃ b : Nat, e = .returned (.slice (some ⟨b, 0, none⟩) M.length M.length) ∧ Row w' b 3 (ints (mvL (trn (swB S ch)) M)) ∧ Below wr.drew.heap.size wr.drew w' ∧ wr.drew.heap.size ≤ b) := Lib.hid (by
        have hT : (saT S ch S.length).length = S.length := lst_len _ _
        have h := rmove_turn S M (saT S ch S.length) L (some ⟨b', o', none⟩) aM (some ⟨bT, 0, none⟩) cS cM S.length S.length wr.drew hS64 Hs.out.len hT (fun x hx => ⟨Hs.out.mt_lt hx, (Hs.out.cast x hx).symm⟩) (fun c hc => by
          unfold saT; rw [lst_nth hc, if_pos hc]; have := swB_bd S ch c; omega) (Hd.out.came HSM.out.2) (Hd.out.row (k := 2) rfl).at
        rw [hT, saT_move S M ch Hs.out.len fun x hx => Hs.out.mt_lt hx] at h
        exact h)
      have hc0 := Hd.out.cell (k := 0) (i := 0) rfl rfl
      have hc1 := Hd.out.cell (k := 0) (i := 1) rfl rfl
      have hc2 := Hd.out.cell (k := 0) (i := 2) rfl rfl
      go_wp2_with fail
      go_region_with ((with_reducible refine HM.out.mono ?_); rintro e w8 ⟨bM, rfl, hrow, hb8, hlo8⟩; have H8 := Lib.hid (Hd.out.call hb8); have Hrow := Lib.hid hrow; clear hc0 hc1 hc2 hrow hb8; have hc0 := H8.out.cell (k := 0) (i := 0) rfl rfl; have hc1 := H8.out.cell (k := 0) (i := 1) rfl rfl; have hc2 := H8.out.cell (k := 0) (i := 2) rfl rfl; have hd0 := H8.out.cell (k := 1) (i := 0) rfl rfl; have hd1 := H8.out.cell (k := 1) (i := 1) rfl rfl; have hd2 := H8.out.cell (k := 1) (i := 2) rfl rfl; have hf0 := H8.out.frozen (k := 1) rfl 0; have hf1 := H8.out.frozen (k := 1) rfl 1; have hf2 := H8.out.frozen (k := 1) rfl 2)
      all_goals
        have Hlo8 := Lib.hid hlo8
        have H9 := Lib.hid (((H8.out.set (k := 1) rfl 0 (.slice aG S.length cG)).set (k := 1) rfl 1 (.slice (some ⟨bM, 0, none⟩) M.length M.length)).set (k := 1) rfl 2 (.int .i64 L))
        have hF0 := H9.out.cell (k := 1) (i := 0) rfl rfl
        have hF1 := H9.out.cell (k := 1) (i := 1) rfl rfl
        have hF2 := H9.out.cell (k := 1) (i := 2) rfl rfl
        clear hlo8
        go_wp2_with fail
        refine bodyPost_ret (v := .agg #[.slice aG S.length cG, .slice (some ⟨bM, 0, none⟩) M.length M.length, .int .i64 L]) (by simp [results, Try.results117, go_sem, hF0, hF1, hF2]) rfl ?_
        have hG := H9.out.sl (k := 0) rfl
        rw [saS_all] at hG
        have hlo : w.heap.size ≤ bM := Nat.le_trans Hd.out.below.size Hlo8.out
        have hMo := (Hrow.out.own hlo).box (H8.out.row (k := 1) rfl) (.slice aG S.length cG) (.slice (some ⟨bM, 0, none⟩) M.length M.length) (.int .i64 L)
        rw [ints_length, mvL_len] at hMo
        exact ⟨aG, some ⟨bM, 0, none⟩, cG, M.length, rfl, hG, hMo, H9.out.below⟩
end Go.Proofs.Ytkopbcehfbmnmaa
