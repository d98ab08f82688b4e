/- The walk of the reference's Reverse. -/
import Derived.Test.YtkopbcehfbmnmaaRRfW
namespace Go.Proofs.Ytkopbcehfbmnmaa
open Go Go.RowKit
section
variable {w : World} {ops : Array Oper} {o : Oper} {a : Act}
/-- An append at a step of a region that draws its order. -/
theorem step_append_all {K : Act → World → Prop} {Q : Exit → Act → World → Prop} {E : Prop} (hgd : o.guard = none) (s x : Operand) (ho : o.op = .call { callee := .builtin .append, args := #[s, x], argTypes := #[22, 22] })
    (u v r : Value) (w' : World) (hs : a.eval s = u) (hx : a.eval x = v) (hrun : (Builtin.append_ #[22, 22] o.type #[u, v]).run Try.prog w = .ok r w') (h : K (a.put o.dst r) w') :
    if Region.wanted o (yielded ops a.tmps) = true then Oper.wp Try.prog o a w K Q else E := by
  have hw : Region.wanted o (yielded ops a.tmps) = true := by simp [Region.wanted, hgd]
  rw [if_pos hw]
  unfold Oper.wp
  simp [execOp, ho, resolve, invoke, builtin, hs, hx, hrun, Result.andThen]
  exact h
end
/-- The turns behind k rounds. -/
def tw (n k : Nat) : List Int := lst n fun x => if x < k then 2 else 0
theorem tw_len (n k : Nat) : (tw n k).length = n := lst_len _ _
theorem tw_set (n k : Nat) (hk : k < n) : (tw n k).set k 2 = tw n (k + 1) := lst_set hk (by rw [if_pos (by omega)]) fun x _ hx => by
  by_cases g : x < k
  · rw [if_pos g, if_pos (by omega)]
  · rw [if_neg g, if_neg (by omega)]
theorem tw_zero (n : Nat) : tw n 0 = List.replicate n 0 := (zero_lst n fun _ => 2).symm
theorem tw_move {S M : List Int} {L : Int} (hs : Shape S M L) : mvL (rturn (tw S.length S.length)) M = mvL (trn fun _ => 2) M := mvL_congr hs.len (fun x hx => hs.mt_lt hx) fun x hx => by
  unfold rturn trn tw
  rw [lst_nth (by omega), if_pos (by omega)]
set_option maxRecDepth 100000 in
set_option maxHeartbeats 16000000 in
theorem rreverse_some (S M : List Int) (L : Int) (aS aM : Option Addr) (cS cM : Nat) (w : World) (hv : vldB S M L = true) (h0S : 0 < S.length) (hS : IntsAt w aS S) (hM : IntsAt w aM M) :
    Calls Try.prog 50 #[.agg #[.slice aS S.length cS, .slice aM M.length cM, .int .i64 L]] w (RfR w S.length M.length S (mvL (trn fun _ => 2) M) L) := by
  obtain ⟨b', o', rfl, _⟩ := hS.open h0S
  have hs := vldB_shape hv
  have hS64 := hs.few
  have hM256 : M.length ≤ 256 := by have := hs.len; omega
  have Hs := Lib.hid hs
  obtain ⟨W, hW⟩ : ∃ W, W = (w.alloc (.cells #[.slice (some ⟨b', o', none⟩) S.length cS, .slice aM M.length cM, .int .i64 L] 24)).alloc (.cells #[.slice none 0 0, .slice none 0 0, .int .i64 0] 24) := ⟨_, rfl⟩
  have h0 : HH w W [(w.heap.size, rowO 24 [.slice (some ⟨b', o', none⟩) S.length cS, .slice aM M.length cM, .int .i64 L]), (w.heap.size + 1, rowO 24 [.slice none 0 0, .slice none 0 0, .int .i64 0])] [] := by
    rw [hW]; exact ((HH.start w).alloc #[.slice (some ⟨b', o', none⟩) S.length cS, .slice aM M.length cM, .int .i64 L] 24 rfl rfl).alloc #[.slice none 0 0, .slice none 0 0, .int .i64 0] 24 (by simp) rfl
  have H0 := Lib.hid h0
  have hmk := run_mk S.length (by omega)
  have HSM := Lib.hid (And.intro hS hM)
  clear hs hv hS hM h0
  go_enter Try.func50, Try.ntmps50
  go_upto_region 1 with fail
  rw [← hW]
  clear hW
  have hc0_0 := H0.out.cell (k := 0) (i := 0) rfl rfl
  go_upto_region 2 with fail
  obtain ⟨v, hv⟩ : ∃ x, x = W.alloc (.cells (Array.replicate S.length (.int .i64 0)) 3) := ⟨_, rfl⟩
  rw [← hv]
  have h1 : HH w v [(w.heap.size, rowO 24 [.slice (some ⟨b', o', none⟩) S.length cS, .slice aM M.length cM, .int .i64 L]), (w.heap.size + 1, rowO 24 [.slice none 0 0, .slice none 0 0, .int .i64 0]), (W.heap.size, rowO 3 (ints (tw S.length 0)))] [] := by
    rw [hv, tw_zero]; exact H0.out.alloc _ 3 rfl (zeros_ints _)
  obtain ⟨bT, hbT⟩ : ∃ x, x = W.heap.size := ⟨_, rfl⟩
  rw [← hbT] at h1
  rw [← hbT]
  have H1 := Lib.hid h1
  clear hbT hv h1 H0 hc0_0
  go_wp2_with fail
  go_loopg [4] S.length (fun g t wr => ∃ c : Nat, c ≤ S.length ∧ g = S.length - c ∧ t = .int .i64 c ∧ HH w wr [(w.heap.size, rowO 24 [.slice (some ⟨b', o', none⟩) S.length cS, .slice aM M.length cM, .int .i64 L]), (w.heap.size + 1, rowO 24 [.slice none 0 0, .slice none 0 0, .int .i64 0]), (bT, rowO 3 (ints (tw S.length c)))] [])
  case atStart => exact ⟨0, Nat.zero_le _, rfl, rfl, H1.out⟩
  case round =>
    clear H1
    obtain ⟨c, hc, rfl, rfl, hk⟩ := hrel
    have Hk := Lib.hid hk
    clear hk
    by_cases hl : c < S.length
    · have hset := Lib.hid (Hk.out.setInt (k := 2) rfl c 2)
      have hT0 := Hk.out.int (k := 2) rfl c (by rw [tw_len]; exact hl)
      have hT1 := Hk.out.frozen (k := 2) rfl c
      have Hst := Lib.hid (tw_set S.length c hl)
      go_wp2_with fail
      go_roundg (S.length - (c + 1))
      case measure => omega
      case rel => exact ⟨c + 1, hl, rfl, by go_num, by rw [← Hst.out]; exact hset.out⟩
    · obtain rfl : c = S.length := by omega
      have HK : Hid (∀ w', Below wr.heap.size wr w' → HH w w' [(w.heap.size, rowO 24 [.slice (some ⟨b', o', none⟩) S.length cS, .slice aM M.length cM, .int .i64 L]), (w.heap.size + 1, rowO 24 [.slice none 0 0, .slice none 0 0, .int .i64 0]), (bT, rowO 3 (ints (tw S.length S.length)))] []) := Lib.hid fun w' h => Hk.out.call h
      have HKS : Hid (∀ w', Below wr.heap.size wr w' → w'.cell? ⟨w.heap.size, 0, none⟩ = some (.slice (some ⟨b', o', none⟩) S.length cS) ∧ w'.cell? ⟨w.heap.size, 1, none⟩ = some (.slice aM M.length cM) ∧ w'.cell? ⟨w.heap.size, 2, none⟩ = some (.int .i64 L)) := Lib.hid fun w' h => ⟨(HK.out _ h).cell (k := 0) (i := 0) rfl rfl, (HK.out _ h).cell (k := 0) (i := 1) rfl rfl, (HK.out _ h).cell (k := 0) (i := 2) rfl rfl⟩
      have HKT : Hid (∀ w' u0 u1 u2, Below wr.heap.size wr w' → ((((w'.setCell ⟨w.heap.size + 1, 0, none⟩ u0).setCell ⟨w.heap.size + 1, 1, none⟩ u1).setCell ⟨w.heap.size + 1, 2, none⟩ u2).cell? ⟨w.heap.size, 0, none⟩ = some (.slice (some ⟨b', o', none⟩) S.length cS) ∧ (((w'.setCell ⟨w.heap.size + 1, 0, none⟩ u0).setCell ⟨w.heap.size + 1, 1, none⟩ u1).setCell ⟨w.heap.size + 1, 2, none⟩ u2).cell? ⟨w.heap.size, 1, none⟩ = some (.slice aM M.length cM) ∧ (((w'.setCell ⟨w.heap.size + 1, 0, none⟩ u0).setCell ⟨w.heap.size + 1, 1, none⟩ u1).setCell ⟨w.heap.size + 1, 2, none⟩ u2).cell? ⟨w.heap.size, 2, none⟩ = some (.int .i64 L))) := Lib.hid fun w' u0 u1 u2 h =>
        have hh := (((HK.out _ h).set (k := 1) rfl 0 u0).set (k := 1) rfl 1 u1).set (k := 1) rfl 2 u2
        ⟨hh.cell (k := 0) (i := 0) rfl rfl, hh.cell (k := 0) (i := 1) rfl rfl, hh.cell (k := 0) (i := 2) rfl rfl⟩
      have HC : Hid (∀ w', Below wr.heap.size wr w' → IntsAt w' (some ⟨b', o', none⟩) S) := Lib.hid fun w' h => (HK.out _ h).came HSM.out.1
      have HMV : Hid (∀ w', Below wr.heap.size wr w' → Calls Try.prog 119 #[.agg #[.slice (some ⟨b', o', none⟩) S.length cS, .slice aM M.length cM, .int .i64 L], .slice (some ⟨bT, 0, none⟩) S.length S.length, .bool false] w' fun e w'' => ∃ b : Nat, e = .returned (.slice (some ⟨b, 0, none⟩) M.length M.length) ∧ Row w'' b 3 (ints (mvL (trn fun _ => 2) M)) ∧ Below w'.heap.size w' w'' ∧ w'.heap.size ≤ b) := Lib.hid fun w' hw' => by
        have hT := tw_len S.length S.length
        have h := rmove_turn S M (tw S.length S.length) L (some ⟨b', o', none⟩) aM (some ⟨bT, 0, none⟩) cS cM S.length S.length w' hS64 Hs.out.len hT (fun x hx => ⟨Hs.out.mt_lt hx, (Hs.out.cast x hx).symm⟩) (fun c hc => by
          unfold tw; rw [lst_nth hc, if_pos hc]; omega) ((HK.out _ hw').came HSM.out.2) ((HK.out _ hw').row (k := 2) rfl).at
        rw [hT, tw_move Hs.out] at h
        exact h
      have Hr0 : Hid (Below wr.heap.size wr wr.drew) := Lib.hid (Below.refl _ _).drew
      have Ha : Hid (Below wr.heap.size wr (wr.alloc (.cells #[] 3)).drew) := Lib.hid ((Below.refl wr.heap.size wr).alloc (Nat.le_refl _) _).drew
      have Hza : Hid (Row (wr.alloc (.cells #[] 3)).drew wr.heap.size 3 []) := Lib.hid (Row.new wr #[] 3)
      obtain ⟨aG, cG, vA, hrunA, hownA, hbA⟩ := run_append_cp (wr.alloc (.cells #[] 3)).drew wr.heap.size wr.heap.size (Nat.le_refl _) Hza.out S ((some ⟨b', o', none⟩)) cS 22 (by omega) (HC.out _ Ha.out)
      have Hv : Hid (Below wr.heap.size wr vA) := Lib.hid (below_of Ha.out hbA Ha.out.size)
      have HoA := Lib.hid hownA
      have HrunA := Lib.hid hrunA
      clear hownA hbA hrunA
      go_wp2_with fail
      go_region_held3 (fun w' => w'.cell? ⟨w.heap.size, 0, none⟩ = some (.slice (some ⟨b', o', none⟩) S.length cS) ∧ w'.cell? ⟨w.heap.size, 1, none⟩ = some (.slice aM M.length cM) ∧ w'.cell? ⟨w.heap.size, 2, none⟩ = some (.int .i64 L))
        (first
          | with_reducible exact HKS.out _ Hr0.out
          | with_reducible exact HKS.out _ Ha.out
          | with_reducible exact HKS.out _ Hv.out
          | with_reducible exact HKS.out _ Hr.out
          | with_reducible exact HKS.out _ (Hr.out.alloc Hr.out.size _)
          | with_reducible exact HKS.out _ HrF.out
          | with_reducible exact HKT.out _ _ _ _ HrF.out)
        (first
          | (refine step_append_all rfl (.tmp 18) (.tmp 20) rfl (.slice (some ⟨wr.heap.size, 0, none⟩) 0 0) (.slice (some ⟨b', o', none⟩) S.length cS) _ _ rfl rfl HrunA.out ?_)
          | (refine step_append_all rfl (.tmp 18) (.tmp 20) rfl (.slice (some ⟨w6.heap.size, 0, none⟩) 0 0) (.slice (some ⟨b', o', none⟩) S.length cS) _ _ rfl rfl HrunB.out ?_)
          | (refine step_append_all rfl (.tmp 18) (.tmp 20) rfl (.slice (some ⟨wr.heap.size, 0, none⟩) 0 0) (.slice (some ⟨b', o', none⟩) S.length cS) _ _ rfl rfl HrunC.out ?_)
          | ((with_reducible refine (HMV.out _ Hv.out).mono ?_); rintro e w6 ⟨b6, rfl, hr6, hb6, hlo6⟩; have HmF := Lib.hid hr6; have HloF := Lib.hid (Nat.le_trans Hv.out.size hlo6); have HoF := Lib.hid (HoA.out.later hb6 (Nat.le_refl _)); have HrF := Lib.hid (below_of Hv.out hb6 Hv.out.size); clear hr6 hlo6 hb6 HrunA; have hd0 := (HK.out _ HrF.out).cell (k := 1) (i := 0) rfl rfl; have hf0 := (HK.out _ HrF.out).frozen (k := 1) rfl 0; have hd1 := (HK.out _ HrF.out).cell (k := 1) (i := 1) rfl rfl; have hf1 := (HK.out _ HrF.out).frozen (k := 1) rfl 1; have hd2 := (HK.out _ HrF.out).cell (k := 1) (i := 2) rfl rfl; have hf2 := (HK.out _ HrF.out).frozen (k := 1) rfl 2)
          | ((with_reducible refine (HMV.out _ Hr0.out).mono ?_); rintro e w6 ⟨b6, rfl, hr6, hb6, hlo6⟩; have HloF := Lib.hid (Nat.le_trans Hr0.out.size hlo6); have Hr := Lib.hid (below_of Hr0.out hb6 Hr0.out.size); clear hlo6 hb6 HrunA; obtain ⟨aG, cG, vB, hrunB, hownB, hbB⟩ := run_append_cp (w6.alloc (.cells #[] 3)) w6.heap.size wr.heap.size Hr.out.size (Row.new w6 #[] 3) S ((some ⟨b', o', none⟩)) cS 22 (by omega) (HC.out _ (Hr.out.alloc Hr.out.size _)); have HrF := Lib.hid (below_of (Hr.out.alloc Hr.out.size _) hbB (Hr.out.alloc Hr.out.size _).size); have HoF := Lib.hid hownB; have HmF := Lib.hid ((hr6.alloc _).later hbB (hr6.alloc _).lt); have HrunB := Lib.hid hrunB; clear hr6 hownB hbB hrunB; have hd0 := (HK.out _ HrF.out).cell (k := 1) (i := 0) rfl rfl; have hf0 := (HK.out _ HrF.out).frozen (k := 1) rfl 0; have hd1 := (HK.out _ HrF.out).cell (k := 1) (i := 1) rfl rfl; have hf1 := (HK.out _ HrF.out).frozen (k := 1) rfl 1; have hd2 := (HK.out _ HrF.out).cell (k := 1) (i := 2) rfl rfl; have hf2 := (HK.out _ HrF.out).frozen (k := 1) rfl 2)
          | ((with_reducible refine (HMV.out _ Ha.out).mono ?_); rintro e w6 ⟨b6, rfl, hr6, hb6, hlo6⟩; have HloF := Lib.hid (Nat.le_trans Ha.out.size hlo6); have Hr := Lib.hid (below_of Ha.out hb6 Ha.out.size); have Hz := Lib.hid (Hza.out.later hb6 Hza.out.lt); clear hlo6 hb6 HrunA; obtain ⟨aG, cG, vB, hrunB, hownB, hbB⟩ := run_append_cp w6 wr.heap.size wr.heap.size (Nat.le_refl _) Hz.out S ((some ⟨b', o', none⟩)) cS 22 (by omega) (HC.out _ Hr.out); have HrF := Lib.hid (below_of Hr.out hbB Hr.out.size); have HoF := Lib.hid hownB; have HmF := Lib.hid (hr6.later hbB hr6.lt); have HrunC := Lib.hid hrunB; clear hr6 hownB hbB hrunB; have hd0 := (HK.out _ HrF.out).cell (k := 1) (i := 0) rfl rfl; have hf0 := (HK.out _ HrF.out).frozen (k := 1) rfl 0; have hd1 := (HK.out _ HrF.out).cell (k := 1) (i := 1) rfl rfl; have hf1 := (HK.out _ HrF.out).frozen (k := 1) rfl 1; have hd2 := (HK.out _ HrF.out).cell (k := 1) (i := 2) rfl rfl; have hf2 := (HK.out _ HrF.out).frozen (k := 1) rfl 2))
      all_goals
        clear hd0 hd1 hd2 hf0 hf1 hf2
        have H9 := Lib.hid ((((HK.out _ HrF.out).set (k := 1) rfl 0 (.slice aG S.length cG)).set (k := 1) rfl 1 (.slice (some ⟨b6, 0, none⟩) M.length M.length)).set (k := 1) rfl 2 (.int .i64 L))
        have hF0 := H9.out.cell (k := 1) (i := 0) rfl rfl
        have hF1 := H9.out.cell (k := 1) (i := 1) rfl rfl
        have hF2 := H9.out.cell (k := 1) (i := 2) rfl rfl
        go_wp2_with fail
        refine bodyPost_ret (v := .agg #[.slice aG S.length cG, .slice (some ⟨b6, 0, none⟩) M.length M.length, .int .i64 L]) (by simp [results, Try.results50, go_sem, hF0, hF1, hF2]) rfl ?_
        have h5 := (HoF.out.mono Hk.out.below.size).box ((HK.out _ HrF.out).row (k := 1) rfl) (.slice aG S.length cG) (.slice (some ⟨b6, 0, none⟩) M.length M.length) (.int .i64 L)
        have h6 := (HmF.out.own (Nat.le_trans Hk.out.below.size HloF.out)).box ((HK.out _ HrF.out).row (k := 1) rfl) (.slice aG S.length cG) (.slice (some ⟨b6, 0, none⟩) M.length M.length) (.int .i64 L)
        rw [ints_length, mvL_len] at h6
        exact ⟨_, _, _, _, rfl, h5, h6, H9.out.below⟩
set_option maxRecDepth 100000 in
set_option maxHeartbeats 16000000 in
theorem rreverse_nil (S M : List Int) (L : Int) (aM : Option Addr) (cS cM : Nat) (w : World) (hv : vldB S M L = true) (h0S : S.length = 0) (hS : IntsAt w none S) (hM : IntsAt w aM M) :
    Calls Try.prog 50 #[.agg #[.slice none S.length cS, .slice aM M.length cM, .int .i64 L]] w (RfR w S.length M.length S (mvL (trn fun _ => 2) M) L) := by
  have hs := vldB_shape hv
  have hS64 := hs.few
  have hM256 : M.length ≤ 256 := by have := hs.len; omega
  have Hs := Lib.hid hs
  obtain ⟨W, hW⟩ : ∃ W, W = (w.alloc (.cells #[.slice none S.length cS, .slice aM M.length cM, .int .i64 L] 24)).alloc (.cells #[.slice none 0 0, .slice none 0 0, .int .i64 0] 24) := ⟨_, rfl⟩
  have h0 : HH w W [(w.heap.size, rowO 24 [.slice none S.length cS, .slice aM M.length cM, .int .i64 L]), (w.heap.size + 1, rowO 24 [.slice none 0 0, .slice none 0 0, .int .i64 0])] [] := by
    rw [hW]; exact ((HH.start w).alloc #[.slice none S.length cS, .slice aM M.length cM, .int .i64 L] 24 rfl rfl).alloc #[.slice none 0 0, .slice none 0 0, .int .i64 0] 24 (by simp) rfl
  have H0 := Lib.hid h0
  have hmk := run_mk S.length (by omega)
  have HSM := Lib.hid (And.intro hS hM)
  have Hz0 := Lib.hid h0S
  clear hs hv hS hM h0 h0S
  go_enter Try.func50, Try.ntmps50
  go_upto_region 1 with fail
  rw [← hW]
  clear hW
  have hc0_0 := H0.out.cell (k := 0) (i := 0) rfl rfl
  go_upto_region 2 with fail
  obtain ⟨v, hv⟩ : ∃ x, x = W.alloc (.cells (Array.replicate S.length (.int .i64 0)) 3) := ⟨_, rfl⟩
  rw [← hv]
  have h1 : HH w v [(w.heap.size, rowO 24 [.slice none S.length cS, .slice aM M.length cM, .int .i64 L]), (w.heap.size + 1, rowO 24 [.slice none 0 0, .slice none 0 0, .int .i64 0]), (W.heap.size, rowO 3 (ints (tw S.length 0)))] [] := by
    rw [hv, tw_zero]; exact H0.out.alloc _ 3 rfl (zeros_ints _)
  obtain ⟨bT, hbT⟩ : ∃ x, x = W.heap.size := ⟨_, rfl⟩
  rw [← hbT] at h1
  rw [← hbT]
  have H1 := Lib.hid h1
  clear hbT hv h1 H0 hc0_0
  go_wp2_with fail
  go_loopg [4] S.length (fun g t wr => ∃ c : Nat, c ≤ S.length ∧ g = S.length - c ∧ t = .int .i64 c ∧ HH w wr [(w.heap.size, rowO 24 [.slice none S.length cS, .slice aM M.length cM, .int .i64 L]), (w.heap.size + 1, rowO 24 [.slice none 0 0, .slice none 0 0, .int .i64 0]), (bT, rowO 3 (ints (tw S.length c)))] [])
  case atStart => exact ⟨0, Nat.zero_le _, rfl, rfl, H1.out⟩
  case round =>
    clear H1
    obtain ⟨c, hc, rfl, rfl, hk⟩ := hrel
    have Hk := Lib.hid hk
    clear hk
    by_cases hl : c < S.length
    · exfalso; rw [Hz0.out] at hl; exact Nat.not_lt_zero _ hl
    · obtain rfl : c = S.length := by omega
      have HK : Hid (∀ w', Below wr.heap.size wr w' → HH w w' [(w.heap.size, rowO 24 [.slice none S.length cS, .slice aM M.length cM, .int .i64 L]), (w.heap.size + 1, rowO 24 [.slice none 0 0, .slice none 0 0, .int .i64 0]), (bT, rowO 3 (ints (tw S.length S.length)))] []) := Lib.hid fun w' h => Hk.out.call h
      have HKS : Hid (∀ w', Below wr.heap.size wr w' → w'.cell? ⟨w.heap.size, 0, none⟩ = some (.slice none S.length cS) ∧ w'.cell? ⟨w.heap.size, 1, none⟩ = some (.slice aM M.length cM) ∧ w'.cell? ⟨w.heap.size, 2, none⟩ = some (.int .i64 L)) := Lib.hid fun w' h => ⟨(HK.out _ h).cell (k := 0) (i := 0) rfl rfl, (HK.out _ h).cell (k := 0) (i := 1) rfl rfl, (HK.out _ h).cell (k := 0) (i := 2) rfl rfl⟩
      have HKT : Hid (∀ w' u0 u1 u2, Below wr.heap.size wr w' → ((((w'.setCell ⟨w.heap.size + 1, 0, none⟩ u0).setCell ⟨w.heap.size + 1, 1, none⟩ u1).setCell ⟨w.heap.size + 1, 2, none⟩ u2).cell? ⟨w.heap.size, 0, none⟩ = some (.slice none S.length cS) ∧ (((w'.setCell ⟨w.heap.size + 1, 0, none⟩ u0).setCell ⟨w.heap.size + 1, 1, none⟩ u1).setCell ⟨w.heap.size + 1, 2, none⟩ u2).cell? ⟨w.heap.size, 1, none⟩ = some (.slice aM M.length cM) ∧ (((w'.setCell ⟨w.heap.size + 1, 0, none⟩ u0).setCell ⟨w.heap.size + 1, 1, none⟩ u1).setCell ⟨w.heap.size + 1, 2, none⟩ u2).cell? ⟨w.heap.size, 2, none⟩ = some (.int .i64 L))) := Lib.hid fun w' u0 u1 u2 h =>
        have hh := (((HK.out _ h).set (k := 1) rfl 0 u0).set (k := 1) rfl 1 u1).set (k := 1) rfl 2 u2
        ⟨hh.cell (k := 0) (i := 0) rfl rfl, hh.cell (k := 0) (i := 1) rfl rfl, hh.cell (k := 0) (i := 2) rfl rfl⟩
      have HC : Hid (∀ w', Below wr.heap.size wr w' → IntsAt w' none S) := Lib.hid fun w' h => (HK.out _ h).came HSM.out.1
      have HMV : Hid (∀ w', Below wr.heap.size wr w' → Calls Try.prog 119 #[.agg #[.slice none S.length cS, .slice aM M.length cM, .int .i64 L], .slice (some ⟨bT, 0, none⟩) S.length S.length, .bool false] w' fun e w'' => ∃ b : Nat, e = .returned (.slice (some ⟨b, 0, none⟩) M.length M.length) ∧ Row w'' b 3 (ints (mvL (trn fun _ => 2) M)) ∧ Below w'.heap.size w' w'' ∧ w'.heap.size ≤ b) := Lib.hid fun w' hw' => by
        have hT := tw_len S.length S.length
        have h := rmove_turn S M (tw S.length S.length) L none aM (some ⟨bT, 0, none⟩) cS cM S.length S.length w' hS64 Hs.out.len hT (fun x hx => ⟨Hs.out.mt_lt hx, (Hs.out.cast x hx).symm⟩) (fun c hc => by
          unfold tw; rw [lst_nth hc, if_pos hc]; omega) ((HK.out _ hw').came HSM.out.2) ((HK.out _ hw').row (k := 2) rfl).at
        rw [hT, tw_move Hs.out] at h
        exact h
      have Hr0 : Hid (Below wr.heap.size wr wr.drew) := Lib.hid (Below.refl _ _).drew
      have Ha : Hid (Below wr.heap.size wr (wr.alloc (.cells #[] 3)).drew) := Lib.hid ((Below.refl wr.heap.size wr).alloc (Nat.le_refl _) _).drew
      have Hza : Hid (Row (wr.alloc (.cells #[] 3)).drew wr.heap.size 3 []) := Lib.hid (Row.new wr #[] 3)
      obtain ⟨aG, cG, vA, hrunA, hownA, hbA⟩ := run_append_cp (wr.alloc (.cells #[] 3)).drew wr.heap.size wr.heap.size (Nat.le_refl _) Hza.out S (none) cS 22 (by omega) (HC.out _ Ha.out)
      have Hv : Hid (Below wr.heap.size wr vA) := Lib.hid (below_of Ha.out hbA Ha.out.size)
      have HoA := Lib.hid hownA
      have HrunA := Lib.hid hrunA
      clear hownA hbA hrunA
      go_wp2_with fail
      go_region_held3 (fun w' => w'.cell? ⟨w.heap.size, 0, none⟩ = some (.slice none S.length cS) ∧ w'.cell? ⟨w.heap.size, 1, none⟩ = some (.slice aM M.length cM) ∧ w'.cell? ⟨w.heap.size, 2, none⟩ = some (.int .i64 L))
        (first
          | with_reducible exact HKS.out _ Hr0.out
          | with_reducible exact HKS.out _ Ha.out
          | with_reducible exact HKS.out _ Hv.out
          | with_reducible exact HKS.out _ Hr.out
          | with_reducible exact HKS.out _ (Hr.out.alloc Hr.out.size _)
          | with_reducible exact HKS.out _ HrF.out
          | with_reducible exact HKT.out _ _ _ _ HrF.out)
        (first
          | (refine step_append_all rfl (.tmp 18) (.tmp 20) rfl (.slice (some ⟨wr.heap.size, 0, none⟩) 0 0) (.slice none S.length cS) _ _ rfl rfl HrunA.out ?_)
          | (refine step_append_all rfl (.tmp 18) (.tmp 20) rfl (.slice (some ⟨w6.heap.size, 0, none⟩) 0 0) (.slice none S.length cS) _ _ rfl rfl HrunB.out ?_)
          | (refine step_append_all rfl (.tmp 18) (.tmp 20) rfl (.slice (some ⟨wr.heap.size, 0, none⟩) 0 0) (.slice none S.length cS) _ _ rfl rfl HrunC.out ?_)
          | ((with_reducible refine (HMV.out _ Hv.out).mono ?_); rintro e w6 ⟨b6, rfl, hr6, hb6, hlo6⟩; have HmF := Lib.hid hr6; have HloF := Lib.hid (Nat.le_trans Hv.out.size hlo6); have HoF := Lib.hid (HoA.out.later hb6 (Nat.le_refl _)); have HrF := Lib.hid (below_of Hv.out hb6 Hv.out.size); clear hr6 hlo6 hb6 HrunA; have hd0 := (HK.out _ HrF.out).cell (k := 1) (i := 0) rfl rfl; have hf0 := (HK.out _ HrF.out).frozen (k := 1) rfl 0; have hd1 := (HK.out _ HrF.out).cell (k := 1) (i := 1) rfl rfl; have hf1 := (HK.out _ HrF.out).frozen (k := 1) rfl 1; have hd2 := (HK.out _ HrF.out).cell (k := 1) (i := 2) rfl rfl; have hf2 := (HK.out _ HrF.out).frozen (k := 1) rfl 2)
          | ((with_reducible refine (HMV.out _ Hr0.out).mono ?_); rintro e w6 ⟨b6, rfl, hr6, hb6, hlo6⟩; have HloF := Lib.hid (Nat.le_trans Hr0.out.size hlo6); have Hr := Lib.hid (below_of Hr0.out hb6 Hr0.out.size); clear hlo6 hb6 HrunA; obtain ⟨aG, cG, vB, hrunB, hownB, hbB⟩ := run_append_cp (w6.alloc (.cells #[] 3)) w6.heap.size wr.heap.size Hr.out.size (Row.new w6 #[] 3) S (none) cS 22 (by omega) (HC.out _ (Hr.out.alloc Hr.out.size _)); have HrF := Lib.hid (below_of (Hr.out.alloc Hr.out.size _) hbB (Hr.out.alloc Hr.out.size _).size); have HoF := Lib.hid hownB; have HmF := Lib.hid ((hr6.alloc _).later hbB (hr6.alloc _).lt); have HrunB := Lib.hid hrunB; clear hr6 hownB hbB hrunB; have hd0 := (HK.out _ HrF.out).cell (k := 1) (i := 0) rfl rfl; have hf0 := (HK.out _ HrF.out).frozen (k := 1) rfl 0; have hd1 := (HK.out _ HrF.out).cell (k := 1) (i := 1) rfl rfl; have hf1 := (HK.out _ HrF.out).frozen (k := 1) rfl 1; have hd2 := (HK.out _ HrF.out).cell (k := 1) (i := 2) rfl rfl; have hf2 := (HK.out _ HrF.out).frozen (k := 1) rfl 2)
          | ((with_reducible refine (HMV.out _ Ha.out).mono ?_); rintro e w6 ⟨b6, rfl, hr6, hb6, hlo6⟩; have HloF := Lib.hid (Nat.le_trans Ha.out.size hlo6); have Hr := Lib.hid (below_of Ha.out hb6 Ha.out.size); have Hz := Lib.hid (Hza.out.later hb6 Hza.out.lt); clear hlo6 hb6 HrunA; obtain ⟨aG, cG, vB, hrunB, hownB, hbB⟩ := run_append_cp w6 wr.heap.size wr.heap.size (Nat.le_refl _) Hz.out S (none) cS 22 (by omega) (HC.out _ Hr.out); have HrF := Lib.hid (below_of Hr.out hbB Hr.out.size); have HoF := Lib.hid hownB; have HmF := Lib.hid (hr6.later hbB hr6.lt); have HrunC := Lib.hid hrunB; clear hr6 hownB hbB hrunB; have hd0 := (HK.out _ HrF.out).cell (k := 1) (i := 0) rfl rfl; have hf0 := (HK.out _ HrF.out).frozen (k := 1) rfl 0; have hd1 := (HK.out _ HrF.out).cell (k := 1) (i := 1) rfl rfl; have hf1 := (HK.out _ HrF.out).frozen (k := 1) rfl 1; have hd2 := (HK.out _ HrF.out).cell (k := 1) (i := 2) rfl rfl; have hf2 := (HK.out _ HrF.out).frozen (k := 1) rfl 2))
      all_goals
        clear hd0 hd1 hd2 hf0 hf1 hf2
        have H9 := Lib.hid ((((HK.out _ HrF.out).set (k := 1) rfl 0 (.slice aG S.length cG)).set (k := 1) rfl 1 (.slice (some ⟨b6, 0, none⟩) M.length M.length)).set (k := 1) rfl 2 (.int .i64 L))
        have hF0 := H9.out.cell (k := 1) (i := 0) rfl rfl
        have hF1 := H9.out.cell (k := 1) (i := 1) rfl rfl
        have hF2 := H9.out.cell (k := 1) (i := 2) rfl rfl
        go_wp2_with fail
        refine bodyPost_ret (v := .agg #[.slice aG S.length cG, .slice (some ⟨b6, 0, none⟩) M.length M.length, .int .i64 L]) (by simp [results, Try.results50, go_sem, hF0, hF1, hF2]) rfl ?_
        have h5 := (HoF.out.mono Hk.out.below.size).box ((HK.out _ HrF.out).row (k := 1) rfl) (.slice aG S.length cG) (.slice (some ⟨b6, 0, none⟩) M.length M.length) (.int .i64 L)
        have h6 := (HmF.out.own (Nat.le_trans Hk.out.below.size HloF.out)).box ((HK.out _ HrF.out).row (k := 1) rfl) (.slice aG S.length cG) (.slice (some ⟨b6, 0, none⟩) M.length M.length) (.int .i64 L)
        rw [ints_length, mvL_len] at h6
        exact ⟨_, _, _, _, rfl, h5, h6, H9.out.below⟩
set_option maxRecDepth 100000 in
set_option maxHeartbeats 16000000 in
theorem rreverse_zero (S M : List Int) (L : Int) (aM : Option Addr) (x : Addr) (cS cM : Nat) (w : World) (hv : vldB S M L = true) (h0S : S.length = 0) (hS : IntsAt w (some x) S) (hM : IntsAt w aM M) :
    Calls Try.prog 50 #[.agg #[.slice (some x) S.length cS, .slice aM M.length cM, .int .i64 L]] w (RfR w S.length M.length S (mvL (trn fun _ => 2) M) L) := by
  have hs := vldB_shape hv
  have hS64 := hs.few
  have hM256 : M.length ≤ 256 := by have := hs.len; omega
  have Hs := Lib.hid hs
  obtain ⟨W, hW⟩ : ∃ W, W = (w.alloc (.cells #[.slice (some x) S.length cS, .slice aM M.length cM, .int .i64 L] 24)).alloc (.cells #[.slice none 0 0, .slice none 0 0, .int .i64 0] 24) := ⟨_, rfl⟩
  have h0 : HH w W [(w.heap.size, rowO 24 [.slice (some x) S.length cS, .slice aM M.length cM, .int .i64 L]), (w.heap.size + 1, rowO 24 [.slice none 0 0, .slice none 0 0, .int .i64 0])] [] := by
    rw [hW]; exact ((HH.start w).alloc #[.slice (some x) S.length cS, .slice aM M.length cM, .int .i64 L] 24 rfl rfl).alloc #[.slice none 0 0, .slice none 0 0, .int .i64 0] 24 (by simp) rfl
  have H0 := Lib.hid h0
  have hmk := run_mk S.length (by omega)
  have HSM := Lib.hid (And.intro hS hM)
  have Hz0 := Lib.hid h0S
  clear hs hv hS hM h0 h0S
  go_enter Try.func50, Try.ntmps50
  go_upto_region 1 with fail
  rw [← hW]
  clear hW
  have hc0_0 := H0.out.cell (k := 0) (i := 0) rfl rfl
  go_upto_region 2 with fail
  obtain ⟨v, hv⟩ : ∃ x, x = W.alloc (.cells (Array.replicate S.length (.int .i64 0)) 3) := ⟨_, rfl⟩
  rw [← hv]
  have h1 : HH w v [(w.heap.size, rowO 24 [.slice (some x) S.length cS, .slice aM M.length cM, .int .i64 L]), (w.heap.size + 1, rowO 24 [.slice none 0 0, .slice none 0 0, .int .i64 0]), (W.heap.size, rowO 3 (ints (tw S.length 0)))] [] := by
    rw [hv, tw_zero]; exact H0.out.alloc _ 3 rfl (zeros_ints _)
  obtain ⟨bT, hbT⟩ : ∃ x, x = W.heap.size := ⟨_, rfl⟩
  rw [← hbT] at h1
  rw [← hbT]
  have H1 := Lib.hid h1
  clear hbT hv h1 H0 hc0_0
  go_wp2_with fail
  go_loopg [4] S.length (fun g t wr => ∃ c : Nat, c ≤ S.length ∧ g = S.length - c ∧ t = .int .i64 c ∧ HH w wr [(w.heap.size, rowO 24 [.slice (some x) S.length cS, .slice aM M.length cM, .int .i64 L]), (w.heap.size + 1, rowO 24 [.slice none 0 0, .slice none 0 0, .int .i64 0]), (bT, rowO 3 (ints (tw S.length c)))] [])
  case atStart => exact ⟨0, Nat.zero_le _, rfl, rfl, H1.out⟩
  case round =>
    clear H1
    obtain ⟨c, hc, rfl, rfl, hk⟩ := hrel
    have Hk := Lib.hid hk
    clear hk
    by_cases hl : c < S.length
    · exfalso; rw [Hz0.out] at hl; exact Nat.not_lt_zero _ hl
    · obtain rfl : c = S.length := by omega
      have HK : Hid (∀ w', Below wr.heap.size wr w' → HH w w' [(w.heap.size, rowO 24 [.slice (some x) S.length cS, .slice aM M.length cM, .int .i64 L]), (w.heap.size + 1, rowO 24 [.slice none 0 0, .slice none 0 0, .int .i64 0]), (bT, rowO 3 (ints (tw S.length S.length)))] []) := Lib.hid fun w' h => Hk.out.call h
      have HKS : Hid (∀ w', Below wr.heap.size wr w' → w'.cell? ⟨w.heap.size, 0, none⟩ = some (.slice (some x) S.length cS) ∧ w'.cell? ⟨w.heap.size, 1, none⟩ = some (.slice aM M.length cM) ∧ w'.cell? ⟨w.heap.size, 2, none⟩ = some (.int .i64 L)) := Lib.hid fun w' h => ⟨(HK.out _ h).cell (k := 0) (i := 0) rfl rfl, (HK.out _ h).cell (k := 0) (i := 1) rfl rfl, (HK.out _ h).cell (k := 0) (i := 2) rfl rfl⟩
      have HKT : Hid (∀ w' u0 u1 u2, Below wr.heap.size wr w' → ((((w'.setCell ⟨w.heap.size + 1, 0, none⟩ u0).setCell ⟨w.heap.size + 1, 1, none⟩ u1).setCell ⟨w.heap.size + 1, 2, none⟩ u2).cell? ⟨w.heap.size, 0, none⟩ = some (.slice (some x) S.length cS) ∧ (((w'.setCell ⟨w.heap.size + 1, 0, none⟩ u0).setCell ⟨w.heap.size + 1, 1, none⟩ u1).setCell ⟨w.heap.size + 1, 2, none⟩ u2).cell? ⟨w.heap.size, 1, none⟩ = some (.slice aM M.length cM) ∧ (((w'.setCell ⟨w.heap.size + 1, 0, none⟩ u0).setCell ⟨w.heap.size + 1, 1, none⟩ u1).setCell ⟨w.heap.size + 1, 2, none⟩ u2).cell? ⟨w.heap.size, 2, none⟩ = some (.int .i64 L))) := Lib.hid fun w' u0 u1 u2 h =>
        have hh := (((HK.out _ h).set (k := 1) rfl 0 u0).set (k := 1) rfl 1 u1).set (k := 1) rfl 2 u2
        ⟨hh.cell (k := 0) (i := 0) rfl rfl, hh.cell (k := 0) (i := 1) rfl rfl, hh.cell (k := 0) (i := 2) rfl rfl⟩
      have HC : Hid (∀ w', Below wr.heap.size wr w' → IntsAt w' (some x) S) := Lib.hid fun w' h => (HK.out _ h).came HSM.out.1
      have HMV : Hid (∀ w', Below wr.heap.size wr w' → Calls Try.prog 119 #[.agg #[.slice (some x) S.length cS, .slice aM M.length cM, .int .i64 L], .slice (some ⟨bT, 0, none⟩) S.length S.length, .bool false] w' fun e w'' => ∃ b : Nat, e = .returned (.slice (some ⟨b, 0, none⟩) M.length M.length) ∧ Row w'' b 3 (ints (mvL (trn fun _ => 2) M)) ∧ Below w'.heap.size w' w'' ∧ w'.heap.size ≤ b) := Lib.hid fun w' hw' => by
        have hT := tw_len S.length S.length
        have h := rmove_turn S M (tw S.length S.length) L (some x) aM (some ⟨bT, 0, none⟩) cS cM S.length S.length w' hS64 Hs.out.len hT (fun x hx => ⟨Hs.out.mt_lt hx, (Hs.out.cast x hx).symm⟩) (fun c hc => by
          unfold tw; rw [lst_nth hc, if_pos hc]; omega) ((HK.out _ hw').came HSM.out.2) ((HK.out _ hw').row (k := 2) rfl).at
        rw [hT, tw_move Hs.out] at h
        exact h
      have Hr0 : Hid (Below wr.heap.size wr wr.drew) := Lib.hid (Below.refl _ _).drew
      have Ha : Hid (Below wr.heap.size wr (wr.alloc (.cells #[] 3)).drew) := Lib.hid ((Below.refl wr.heap.size wr).alloc (Nat.le_refl _) _).drew
      have Hza : Hid (Row (wr.alloc (.cells #[] 3)).drew wr.heap.size 3 []) := Lib.hid (Row.new wr #[] 3)
      obtain ⟨aG, cG, vA, hrunA, hownA, hbA⟩ := run_append_cp (wr.alloc (.cells #[] 3)).drew wr.heap.size wr.heap.size (Nat.le_refl _) Hza.out S ((some x)) cS 22 (by omega) (HC.out _ Ha.out)
      have Hv : Hid (Below wr.heap.size wr vA) := Lib.hid (below_of Ha.out hbA Ha.out.size)
      have HoA := Lib.hid hownA
      have HrunA := Lib.hid hrunA
      clear hownA hbA hrunA
      go_wp2_with fail
      go_region_held3 (fun w' => w'.cell? ⟨w.heap.size, 0, none⟩ = some (.slice (some x) S.length cS) ∧ w'.cell? ⟨w.heap.size, 1, none⟩ = some (.slice aM M.length cM) ∧ w'.cell? ⟨w.heap.size, 2, none⟩ = some (.int .i64 L))
        (first
          | with_reducible exact HKS.out _ Hr0.out
          | with_reducible exact HKS.out _ Ha.out
          | with_reducible exact HKS.out _ Hv.out
          | with_reducible exact HKS.out _ Hr.out
          | with_reducible exact HKS.out _ (Hr.out.alloc Hr.out.size _)
          | with_reducible exact HKS.out _ HrF.out
          | with_reducible exact HKT.out _ _ _ _ HrF.out)
        (first
          | (refine step_append_all rfl (.tmp 18) (.tmp 20) rfl (.slice (some ⟨wr.heap.size, 0, none⟩) 0 0) (.slice (some x) S.length cS) _ _ rfl rfl HrunA.out ?_)
          | (refine step_append_all rfl (.tmp 18) (.tmp 20) rfl (.slice (some ⟨w6.heap.size, 0, none⟩) 0 0) (.slice (some x) S.length cS) _ _ rfl rfl HrunB.out ?_)
          | (refine step_append_all rfl (.tmp 18) (.tmp 20) rfl (.slice (some ⟨wr.heap.size, 0, none⟩) 0 0) (.slice (some x) S.length cS) _ _ rfl rfl HrunC.out ?_)
          | ((with_reducible refine (HMV.out _ Hv.out).mono ?_); rintro e w6 ⟨b6, rfl, hr6, hb6, hlo6⟩; have HmF := Lib.hid hr6; have HloF := Lib.hid (Nat.le_trans Hv.out.size hlo6); have HoF := Lib.hid (HoA.out.later hb6 (Nat.le_refl _)); have HrF := Lib.hid (below_of Hv.out hb6 Hv.out.size); clear hr6 hlo6 hb6 HrunA; have hd0 := (HK.out _ HrF.out).cell (k := 1) (i := 0) rfl rfl; have hf0 := (HK.out _ HrF.out).frozen (k := 1) rfl 0; have hd1 := (HK.out _ HrF.out).cell (k := 1) (i := 1) rfl rfl; have hf1 := (HK.out _ HrF.out).frozen (k := 1) rfl 1; have hd2 := (HK.out _ HrF.out).cell (k := 1) (i := 2) rfl rfl; have hf2 := (HK.out _ HrF.out).frozen (k := 1) rfl 2)
          | ((with_reducible refine (HMV.out _ Hr0.out).mono ?_); rintro e w6 ⟨b6, rfl, hr6, hb6, hlo6⟩; have HloF := Lib.hid (Nat.le_trans Hr0.out.size hlo6); have Hr := Lib.hid (below_of Hr0.out hb6 Hr0.out.size); clear hlo6 hb6 HrunA; obtain ⟨aG, cG, vB, hrunB, hownB, hbB⟩ := run_append_cp (w6.alloc (.cells #[] 3)) w6.heap.size wr.heap.size Hr.out.size (Row.new w6 #[] 3) S ((some x)) cS 22 (by omega) (HC.out _ (Hr.out.alloc Hr.out.size _)); have HrF := Lib.hid (below_of (Hr.out.alloc Hr.out.size _) hbB (Hr.out.alloc Hr.out.size _).size); have HoF := Lib.hid hownB; have HmF := Lib.hid ((hr6.alloc _).later hbB (hr6.alloc _).lt); have HrunB := Lib.hid hrunB; clear hr6 hownB hbB hrunB; have hd0 := (HK.out _ HrF.out).cell (k := 1) (i := 0) rfl rfl; have hf0 := (HK.out _ HrF.out).frozen (k := 1) rfl 0; have hd1 := (HK.out _ HrF.out).cell (k := 1) (i := 1) rfl rfl; have hf1 := (HK.out _ HrF.out).frozen (k := 1) rfl 1; have hd2 := (HK.out _ HrF.out).cell (k := 1) (i := 2) rfl rfl; have hf2 := (HK.out _ HrF.out).frozen (k := 1) rfl 2)
          | ((with_reducible refine (HMV.out _ Ha.out).mono ?_); rintro e w6 ⟨b6, rfl, hr6, hb6, hlo6⟩; have HloF := Lib.hid (Nat.le_trans Ha.out.size hlo6); have Hr := Lib.hid (below_of Ha.out hb6 Ha.out.size); have Hz := Lib.hid (Hza.out.later hb6 Hza.out.lt); clear hlo6 hb6 HrunA; obtain ⟨aG, cG, vB, hrunB, hownB, hbB⟩ := run_append_cp w6 wr.heap.size wr.heap.size (Nat.le_refl _) Hz.out S ((some x)) cS 22 (by omega) (HC.out _ Hr.out); have HrF := Lib.hid (below_of Hr.out hbB Hr.out.size); have HoF := Lib.hid hownB; have HmF := Lib.hid (hr6.later hbB hr6.lt); have HrunC := Lib.hid hrunB; clear hr6 hownB hbB hrunB; have hd0 := (HK.out _ HrF.out).cell (k := 1) (i := 0) rfl rfl; have hf0 := (HK.out _ HrF.out).frozen (k := 1) rfl 0; have hd1 := (HK.out _ HrF.out).cell (k := 1) (i := 1) rfl rfl; have hf1 := (HK.out _ HrF.out).frozen (k := 1) rfl 1; have hd2 := (HK.out _ HrF.out).cell (k := 1) (i := 2) rfl rfl; have hf2 := (HK.out _ HrF.out).frozen (k := 1) rfl 2))
      all_goals
        clear hd0 hd1 hd2 hf0 hf1 hf2
        have H9 := Lib.hid ((((HK.out _ HrF.out).set (k := 1) rfl 0 (.slice aG S.length cG)).set (k := 1) rfl 1 (.slice (some ⟨b6, 0, none⟩) M.length M.length)).set (k := 1) rfl 2 (.int .i64 L))
        have hF0 := H9.out.cell (k := 1) (i := 0) rfl rfl
        have hF1 := H9.out.cell (k := 1) (i := 1) rfl rfl
        have hF2 := H9.out.cell (k := 1) (i := 2) rfl rfl
        go_wp2_with fail
        refine bodyPost_ret (v := .agg #[.slice aG S.length cG, .slice (some ⟨b6, 0, none⟩) M.length M.length, .int .i64 L]) (by simp [results, Try.results50, go_sem, hF0, hF1, hF2]) rfl ?_
        have h5 := (HoF.out.mono Hk.out.below.size).box ((HK.out _ HrF.out).row (k := 1) rfl) (.slice aG S.length cG) (.slice (some ⟨b6, 0, none⟩) M.length M.length) (.int .i64 L)
        have h6 := (HmF.out.own (Nat.le_trans Hk.out.below.size HloF.out)).box ((HK.out _ HrF.out).row (k := 1) rfl) (.slice aG S.length cG) (.slice (some ⟨b6, 0, none⟩) M.length M.length) (.int .i64 L)
        rw [ints_length, mvL_len] at h6
        exact ⟨_, _, _, _, rfl, h5, h6, H9.out.below⟩
theorem rreverse_any (S M : List Int) (L : Int) (aS aM : Option Addr) (cS cM : Nat) (w : World) (hv : vldB S M L = true) (hS : IntsAt w aS S) (hM : IntsAt w aM M) :
    Calls Try.prog 50 #[.agg #[.slice aS S.length cS, .slice aM M.length cM, .int .i64 L]] w (RfR w S.length M.length S (mvL (trn fun _ => 2) M) L) := by
  rcases Nat.eq_zero_or_pos S.length with h | h
  · cases aS with
    | none => exact rreverse_nil S M L aM cS cM w hv h hS hM
    | some x => exact rreverse_zero S M L aM x cS cM w hv h hS hM
  · exact rreverse_some S M L aS aM cS cM w hv h hS hM
end Go.Proofs.Ytkopbcehfbmnmaa
