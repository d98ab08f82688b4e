/- The walk of the reference's ReverseOne; what its loop computes. -/
import Derived.Test.YtkopbcehfbmnmaaFlagB
import Derived.Test.YtkopbcehfbmnmaaSameA
import Derived.Test.YtkopbcehfbmnmaaRTab
import Derived.Test.YtkopbcehfbmnmaaRefSmallW
import Derived.Test.YtkopbcehfbmnmaaRSwW
import Derived.Deep.RegionHeld3
namespace Go.Proofs.Ytkopbcehfbmnmaa
open Go Go.RowKit
/-- The flag behind the passages P. -/
def flF (n p : Nat) (P : List Nat) (c : Nat) : Bool := bth (P.foldl (setF p) (List.replicate n false)) c
theorem flF_snoc (n p : Nat) (P : List Nat) (h c : Nat) (hc : c < n) : flF n p (P ++ [h]) c = (flF n p P c || decide (h / 4 = c ∧ h % 2 = p)) := by
  unfold flF
  rw [List.foldl_append]
  exact setF_at p _ h c (by rw [foldF_len]; simpa using hc)
theorem flF_nil (n p c : Nat) (hc : c < n) : flF n p [] c = false := by simp [flF, bth, hc]
theorem flF_any (n p : Nat) (P : List Nat) (c : Nat) (hc : c < n) : flF n p P c = P.any fun h => decide (h / 4 = c ∧ h % 2 = p) := by
  unfold flF
  rw [foldF_at p c P _ (by simpa using hc)]
  have : bth (List.replicate n false) c = false := by simp [bth, hc]
  rw [this, Bool.false_or]
/-- The reference's lists behind the passages P. -/
def roS (S : List Int) (P : List Nat) : List Int := lst S.length fun c => nth S c * (if flF S.length 0 P c = flF S.length 1 P c then 1 else -1)
def roT (S : List Int) (P : List Nat) : List Int := lst S.length fun c => if flF S.length 0 P c = true then 2 else 0
theorem roS_nil (S : List Int) : roS S [] = S := (lst_ext rfl fun c hc => by rw [flF_nil _ _ _ hc, flF_nil _ _ _ hc, if_pos rfl, Int.mul_one]).symm
theorem roT_nil (S : List Int) : roT S [] = List.replicate S.length 0 := (lst_ext (by simp) fun c hc => by rw [flF_nil _ _ _ hc, if_neg (by decide)]; simp [nth, hc]).symm
theorem roS_at (S : List Int) (P : List Nat) {c : Nat} (hc : c < S.length) : nth (roS S P) c = nth S c * (if flF S.length 0 P c = flF S.length 1 P c then 1 else -1) := lst_nth hc
theorem roS_step (S : List Int) (P : List Nat) (h : Nat) (hc : h / 4 < S.length) (hn : flF S.length (h % 2) P (h / 4) = false) : (roS S P).set (h / 4) (-(nth (roS S P) (h / 4))) = roS S (P ++ [h]) := by
  refine lst_set hc ?_ fun c hc2 hne => ?_
  · rw [roS_at S P hc, flF_snoc _ _ _ _ _ hc, flF_snoc _ _ _ _ _ hc]
    rcases (show h % 2 = 0 ∨ h % 2 = 1 from by omega) with e | e
    · rw [e] at hn ⊢
      have t1 : decide (h / 4 = h / 4 ∧ (0 : Nat) = 0) = true := by simp
      have t2 : decide (h / 4 = h / 4 ∧ (0 : Nat) = 1) = false := by simp
      rw [hn, t1, t2, Bool.or_false]
      cases flF S.length 1 P (h / 4) <;> simp
    · rw [e] at hn ⊢
      have t1 : decide (h / 4 = h / 4 ∧ (1 : Nat) = 1) = true := by simp
      have t2 : decide (h / 4 = h / 4 ∧ (1 : Nat) = 0) = false := by simp
      rw [hn, t1, t2, Bool.or_false]
      cases flF S.length 0 P (h / 4) <;> simp
  · rw [flF_snoc _ _ _ _ _ hc2, flF_snoc _ _ _ _ _ hc2, decide_eq_false (fun k => hne k.1.symm), decide_eq_false (fun k => hne k.1.symm), Bool.or_false, Bool.or_false]
theorem roT_two (S : List Int) (P : List Nat) (h : Nat) (hc : h / 4 < S.length) (h2 : h % 4 = 2) : (roT S P).set (h / 4) 2 = roT S (P ++ [h]) := by
  refine lst_set hc ?_ fun c hc2 hne => ?_
  · rw [flF_snoc _ _ _ _ _ hc, decide_eq_true ⟨rfl, by omega⟩, Bool.or_true, if_pos rfl]
  · rw [flF_snoc _ _ _ _ _ hc2, decide_eq_false (fun k => hne k.1.symm), Bool.or_false]
theorem roT_odd (S : List Int) (P : List Nat) (h : Nat) (h2 : h % 2 = 1) : roT S P = roT S (P ++ [h]) := lst_congr fun c hc => by
  rw [flF_snoc _ _ _ _ _ hc, decide_eq_false (fun k => by omega), Bool.or_false]
section
variable {S M : List Int} {L : Int} (hv : vldB S M L = true) {i : Nat} {l : List Nat} (hl : (strandsL S M L)[i]? = some l)
include hv hl
/-- A passage of a strand: an outgoing half-edge; no other one of the strand lies there. -/
theorem strand_out {k : Nat} (hk : k < l.length) : l[k] < 4 * S.length ∧ outB S l[k] = true := by
  have hs := vldB_shape hv
  rw [strandsL_leasts hv, List.getElem?_map] at hl
  obtain ⟨r, hr, rfl⟩ := Option.map_eq_some_iff.1 hl
  have hm : r ∈ leasts S M := List.mem_of_getElem? hr
  have := (mem_strand hs hm).1 (List.getElem_mem hk)
  exact ⟨this.1, this.2.1⟩
theorem strand_nodup : l.Nodup := by
  have hs := vldB_shape hv
  rw [strandsL_leasts hv, List.getElem?_map] at hl
  obtain ⟨r, hr, rfl⟩ := Option.map_eq_some_iff.1 hl
  have hm : r ∈ leasts S M := List.mem_of_getElem? hr
  have hrl := ((mem_leasts hs).1 hm).1
  exact orb_nodup hs.injS hrl (hs.perS r hrl)
theorem strand_new {k : Nat} (hk : k < l.length) : flF S.length (l[k] % 2) (l.take k) (l[k] / 4) = false := by
  have hs := vldB_shape hv
  obtain ⟨a1, a2⟩ := strand_out hv hl hk
  rw [flF_any _ _ _ _ (by omega), Bool.eq_false_iff]
  intro h
  rw [List.any_eq_true] at h
  obtain ⟨x, hx, hd⟩ := h
  obtain ⟨d1, d2⟩ := of_decide_eq_true hd
  obtain ⟨j, hj, rfl⟩ := List.getElem_of_mem hx
  rw [List.length_take] at hj
  rw [List.getElem_take] at d1 d2
  obtain ⟨b1, b2⟩ := strand_out hv hl (k := j) (by omega)
  have he := out_one hs b1 d1 d2 b2 a2
  exact List.pairwise_iff_getElem.1 (strand_nodup hv hl) j k (by omega) hk (by omega) he
theorem strand_slot {k : Nat} (hk : k < l.length) (h2 : l[k] % 2 = 0) : l[k] % 4 = 2 := by
  have hs := vldB_shape hv
  obtain ⟨a1, a2⟩ := strand_out hv hl hk
  rcases (show l[k] % 4 = 0 ∨ l[k] % 4 = 2 from by omega) with e | e
  · rw [outB_0 S _ e] at a2; cases a2
  · exact e
theorem roS_all : roS S l = mulS S (r1S S M i) := (lst_ext (mulS_len _ _) fun c hc => by
  rw [nth_mulS _ _ _ hc]
  unfold flF r1S
  rw [flag_u hv hl hc, flag_o hv hl hc]).symm
theorem roT_all : roT S l = lst S.length (r1B S M i) := lst_congr fun c hc => by
  unfold flF r1B
  rw [flag_u hv hl hc]
end
section
variable {S M : List Int} {L : Int} (hv : vldB S M L = true) {i : Nat} (hi : (strandsL S M L).length ≤ i)
include hv hi
theorem none_flags {c : Nat} (hc : c < S.length) : uB S M i c = false ∧ oB S M i c = false := by
  have hs := vldB_shape hv
  rw [strandsL_leasts hv, List.length_map] at hi
  have h1 := ix_lt hs (x := 4 * c + 2) (by omega)
  have h2 := ix_lt hs (x := 4 * c + 1) (by omega)
  exact ⟨decide_eq_false (by omega), decide_eq_false (by omega)⟩
theorem roS_none : S = mulS S (r1S S M i) := ext_nth (mulS_len _ _).symm fun c hc => by
  rw [nth_mulS _ _ _ hc]
  unfold r1S
  rw [(none_flags hv hi hc).1, (none_flags hv hi hc).2, if_pos rfl, Int.mul_one]
theorem roT_none : List.replicate S.length 0 = lst S.length (r1B S M i) := lst_ext (by simp) fun c hc => by
  unfold r1B
  rw [(none_flags hv hi hc).1, if_neg (by decide)]
  simp [nth, hc]
end
theorem roT_move {S M : List Int} {L : Int} (hs : Shape S M L) (i : Nat) : mvL (rturn (lst S.length (r1B S M i))) M = mvL (trn (r1B S M i)) M := mvL_congr hs.len (fun x hx => hs.mt_lt hx) fun x hx => by
  unfold rturn trn
  rw [lst_nth (by omega)]
set_option maxRecDepth 100000 in
set_option maxHeartbeats 16000000 in
theorem rrone_some (S M : List Int) (L : Int) (aS aM : Option Addr) (cS cM i : Nat) (w : World) (hv : vldB S M L = true) (h0S : 0 < S.length) (hi : (i : Int) < ((strandsL S M L).length : Int) + L) (hS : IntsAt w aS S) (hM : IntsAt w aM M) :
    Calls Try.prog 59 #[.agg #[.slice aS S.length cS, .slice aM M.length cM, .int .i64 L], .int .i64 (i : Int)] w (RfR w S.length M.length (mulS S (r1S S M i)) (mvL (trn (r1B S M i)) M) L) := by
  obtain ⟨b', o', rfl, _⟩ := hS.open h0S
  have hs := vldB_shape hv
  have hS64 := hs.few
  have hM256 : M.length ≤ 256 := by have := hs.len; omega
  have hL1 := hs.hi
  have hfw := (strandsL_lists hv).few
  have Hs := Lib.hid hs
  have Hv := Lib.hid hv
  obtain ⟨W, hW⟩ : ∃ W, W = (w.alloc (.cells #[.slice (some ⟨b', o', none⟩) S.length cS, .slice aM M.length cM, .int .i64 L] 24)).alloc (.cells #[.slice none 0 0, .slice none 0 0, .int .i64 0] 24) := ⟨_, rfl⟩
  have h0 : HH w W [(w.heap.size, rowO 24 [.slice (some ⟨b', o', none⟩) S.length cS, .slice aM M.length cM, .int .i64 L]), (w.heap.size + 1, rowO 24 [.slice none 0 0, .slice none 0 0, .int .i64 0])] [] := by
    rw [hW]; exact ((HH.start w).alloc #[.slice (some ⟨b', o', none⟩) S.length cS, .slice aM M.length cM, .int .i64 L] 24 rfl rfl).alloc #[.slice none 0 0, .slice none 0 0, .int .i64 0] 24 (by simp) rfl
  have H0 := Lib.hid h0
  have HR1 : Hid (Calls Try.prog 129 #[.agg #[.slice (some ⟨b', o', none⟩) S.length cS, .slice aM M.length cM, .int .i64 L]] W fun e w' => ∃ a c, e = .returned (.slice a (strandsL S M L).length c) ∧ Below W.heap.size W w' ∧ OwnRows w' W.heap.size a c ((strandsL S M L).map nats)) := Lib.hid (by
    have h := rstrands_any S M L S.length (some ⟨b', o', none⟩) aM cS cM W (by omega) rfl (h0.came hS) hs.len hs.mates2.ok (h0.came hM)
    rw [rstrandsL_eq hv] at h
    exact h)
  have hmk := run_mk S.length (by omega)
  have HSM := Lib.hid (And.intro hS hM)
  have hi400 : (i : Int) ≤ 400 := by omega
  have Hi := Lib.hid hi
  clear hs hv hS hM h0 hi
  go_enter Try.func59, Try.ntmps59
  go_upto_region 1 with fail
  rw [← hW]
  clear hW
  have hc0 := H0.out.cell (k := 0) (i := 0) rfl rfl
  have hc1 := H0.out.cell (k := 0) (i := 1) rfl rfl
  have hc2 := H0.out.cell (k := 0) (i := 2) rfl rfl
  go_wp2_with fail
  refine HR1.out.mono ?_
  rintro e w1 ⟨A, c, rfl, hb1, hR⟩
  have HR := Lib.hid hR
  have HK0 := Lib.hid (H0.out.call hb1)
  have HK : Hid (∀ w', Below w1.heap.size w1 w' → HH w w' [(w.heap.size, rowO 24 [.slice (some ⟨b', o', none⟩) S.length cS, .slice aM M.length cM, .int .i64 L]), (w.heap.size + 1, rowO 24 [.slice none 0 0, .slice none 0 0, .int .i64 0])] []) := Lib.hid fun w' h => HK0.out.call h
  clear hb1 hR hc0 hc1 hc2 HR1 H0 HK0
  have hc0 := (HK.out _ (Below.refl _ _)).cell (k := 0) (i := 0) rfl rfl
  go_upto_region 3 with fail
  obtain ⟨v, hv⟩ : ∃ x, x = w1.alloc (.cells (Array.replicate S.length (.int .i64 0)) 3) := ⟨_, rfl⟩
  rw [← hv]
  have h1 : HH w1 v [(w1.heap.size, rowO 3 (ints (roT S [])))] [] := by
    rw [hv, roT_nil]; exact (HH.start w1).alloc _ 3 rfl (zeros_ints _)
  obtain ⟨bT, hbT⟩ : ∃ x, x = w1.heap.size := ⟨_, rfl⟩
  rw [← hbT] at h1
  rw [← hbT]
  have H1 := Lib.hid h1
  clear hbT hv h1 hc0
  have hbe : Below v.heap.size v (v.alloc (.cells #[] 3)) := (Below.refl _ _).alloc (Nat.le_refl _) _
  have hb1e : Below w1.heap.size w1 (v.alloc (.cells #[] 3)) := below_of H1.out.below hbe H1.out.below.size
  obtain ⟨aG, cG, v2, hrun, hown, hb2⟩ := run_append_cp (v.alloc (.cells #[] 3)) v.heap.size v.heap.size (Nat.le_refl _) (Row.new v #[] 3) S ((some ⟨b', o', none⟩)) cS 22 (by omega) ((HK.out _ hb1e).came HSM.out.1)
  have Hrun := Lib.hid hrun
  have H2 : Hid (HH w1 v2 [(bT, rowO 3 (ints (roT S [])))] [⟨aG, cG, 3, ints (roS S [])⟩]) := Lib.hid (by
    rw [roS_nil]; exact H1.out.addSl (below_step hbe hb2) hown)
  have hc0_0 := (HK.out _ hb1e).cell (k := 0) (i := 0) rfl rfl
  clear hrun hown hb2 hbe hb1e
  go_upto_region 4 with (refine wpList_append_all rfl (.tmp 16) (.tmp 18) rfl (.slice (some ⟨v.heap.size, 0, none⟩) 0 0) (.slice (some ⟨b', o', none⟩) S.length cS) _ _ rfl rfl Hrun.out ?_)
  clear hc0_0 H1 Hrun
  by_cases hil : i < (strandsL S M L).length
  · obtain ⟨l, hl⟩ : ∃ l, (strandsL S M L)[i]? = some l := ⟨_, List.getElem?_eq_getElem hil⟩
    obtain ⟨b, off, rfl, _, hbF, hF⟩ := HR.out.open (by rw [List.length_map]; omega)
    obtain ⟨aR, cR, hcF, hoR⟩ := hF i (nats l) (by rw [List.getElem?_map, hl]; rfl)
    rw [nats_length] at hcF
    have Hls := Lib.hid (strandsL_lists Hv.out)
    have hll := Hls.out.len i l hl
    have Hl := Lib.hid hl
    have HcR : Hid (∀ W', Below w1.heap.size w1 W' → ∀ (j : Nat) (hj : j < l.length), ∃ bR oR, aR = some ⟨bR, oR, none⟩ ∧ W'.cell? ⟨bR, oR + j, none⟩ = some (.int .i64 ((l[j] : Nat) : Int))) := Lib.hid fun W' hW' j hj => by
      obtain ⟨bR, oR, e1, _, e2, e3, _⟩ := hoR.open (by rw [ints_length, nats_length]; omega)
      refine ⟨bR, oR, e1, ?_⟩
      have := e3 j _ (ints_get _ _ (by rw [nats_length]; exact hj))
      rw [nth_nats _ _ hj, List.getD_eq_getElem?_getD, List.getElem?_eq_getElem hj] at this
      exact (hW'.cell (p := ⟨bR, oR + j, none⟩) e2).trans this
    have HcF : Hid (∀ W', Below w1.heap.size w1 W' → W'.cell? ⟨b, off + i, none⟩ = some (.slice aR l.length cR)) := Lib.hid fun W' hW' => (hW'.cell (p := ⟨b, off + i, none⟩) hbF).trans hcF
    clear hF hoR hcF hl HR Hls
    have d6 : decide (i < (strandsL S M L).length) = true := decide_eq_true hil
    go_wp2_with fail
    clear d6
    go_loopg [8] l.length (fun g v wr => ∃ j : Nat, j ≤ l.length ∧ g = l.length - j ∧ v = .int .i64 j ∧ HH w1 wr [(bT, rowO 3 (ints (roT S (l.take j))))] [⟨aG, cG, 3, ints (roS S (l.take j))⟩])
    case atStart => exact ⟨0, Nat.zero_le _, rfl, rfl, H2.out⟩
    case round =>
      clear H2
      obtain ⟨j, hj, rfl, rfl, hh⟩ := hrel
      have Hh := Lib.hid hh
      clear hh
      have hcF := HcF.out wr Hh.out.below
      by_cases hjl : j < l.length
      · obtain ⟨bR, oR, rfl, hcx⟩ := HcR.out wr Hh.out.below j hjl
        have Hnew := Lib.hid (strand_new Hv.out Hl.out hjl)
        have Hslot := Lib.hid (strand_slot Hv.out Hl.out hjl)
        have hxl := (strand_out Hv.out Hl.out hjl).1
        have Htk : Hid (l.take (j + 1) = l.take j ++ [l[j]]) := Lib.hid (List.take_succ_eq_append_getElem hjl)
        have Hyb : Hid (-1 ≤ nth (roS S (l.take j)) (l[j] / 4) ∧ nth (roS S (l.take j)) (l[j] / 4) ≤ 1) := Lib.hid (by
          rw [roS_at S _ (by omega)]
          have h1 := Hs.out.sign (l[j] / 4) (by omega)
          rcases h1 with h1 | h1 <;> rw [h1] <;> split <;> omega)
        generalize l.take j = P at *
        generalize l[j] = x at *
        have hq4 : x / 4 < S.length := by omega
        have hxx : x ≤ 256 := by omega
        have HST := Lib.hid (roS_step S P x hq4 Hnew.out)
        have Hlen : Hid (x / 4 < (ints (roS S P)).length ∧ x / 4 < (roS S P).length ∧ x / 4 < (roT S P).length) := Lib.hid ⟨by rw [ints_length]; unfold roS; rw [lst_len]; exact hq4, by unfold roS; rw [lst_len]; exact hq4, by unfold roT; rw [lst_len]; exact hq4⟩
        obtain ⟨bG, oG, rfl, _, _, hcG, hfG⟩ := (Hh.out.sl (k := 0) rfl).open (Nat.lt_of_le_of_lt (Nat.zero_le _) Hlen.out.1)
        have hG1 := hcG (x / 4) _ (ints_get _ _ Hlen.out.2.1)
        have hG2 := hfG (oG + x / 4)
        have hset1 := Hh.out.slSet (k := 0) rfl (x / 4) Hlen.out.1 (.int .i64 (-(nth (roS S P) (x / 4))))
        rw [ints_set, HST.out, ← Htk.out] at hset1
        have Hset1 := Lib.hid hset1
        clear hcG hfG hset1
        have hy := Hyb.out
        obtain ⟨y, hyy⟩ : ∃ y, y = nth (roS S P) (x / 4) := ⟨_, rfl⟩
        rw [← hyy] at hG1 Hset1 hy
        have hneg : (0 : Int) - y = -y := by omega
        obtain ⟨hy0, hy1⟩ := hy
        clear hyy
        by_cases h2 : x % 4 = 2
        · have hx2 : (x : Int) % 4 = 2 := by omega
          have hT0 := Hset1.out.int (k := 0) rfl (x / 4) Hlen.out.2.2
          have hT1 := Hset1.out.frozen (k := 0) rfl (x / 4)
          have hset2 := Hset1.out.setInt (k := 0) rfl (x / 4) 2
          rw [roT_two S P x hq4 h2, ← Htk.out] at hset2
          have Hset2 := Lib.hid hset2
          clear hset2 h2
          generalize nth (roT S P) (x / 4) = tv at *
          go_wp2_with fail
          go_roundg (l.length - (j + 1))
          case measure => omega
          case rel => exact ⟨j + 1, by omega, rfl, by go_num, Hset2.out⟩
        · have hx2 : ¬ (x : Int) % 4 = 2 := by omega
          have hx3 : ((x : Int) % 4 == 2) = false := by rw [beq_eq_false_iff_ne]; exact hx2
          have HT : Hid (roT S P = roT S (l.take (j + 1))) := Lib.hid (by
            rw [Htk.out]
            exact roT_odd S P x (by rcases Nat.mod_two_eq_zero_or_one x with e | e; exact absurd (Hslot.out e) h2; exact e))
          clear h2
          go_wp2_with fail
          go_roundg (l.length - (j + 1))
          case measure => omega
          case rel => exact ⟨j + 1, by omega, rfl, by go_num, by rw [← HT.out]; exact Hset1.out⟩
      · obtain rfl : j = l.length := by omega
        go_wp2_with fail
        rw [List.take_length] at Hh
        clear hcF HcF HcR hjl hj
        have HrT := Lib.hid (Hh.out.row (k := 0) rfl)
        have HoG := Lib.hid (Hh.out.sl (k := 0) rfl)
        have HbW := Lib.hid (Hh.out.below)
        clear Hh
        have HKS : Hid (∀ w', Below wr.heap.size wr w' → w'.cell? ⟨w.heap.size, 0, none⟩ = some (.slice (some ⟨b', o', none⟩) S.length cS) ∧ w'.cell? ⟨w.heap.size, 1, none⟩ = some (.slice aM M.length cM) ∧ w'.cell? ⟨w.heap.size, 2, none⟩ = some (.int .i64 L)) := Lib.hid fun w' h => have hh := HK.out _ (below_of HbW.out h HbW.out.size); ⟨hh.cell (k := 0) (i := 0) rfl rfl, hh.cell (k := 0) (i := 1) rfl rfl, hh.cell (k := 0) (i := 2) rfl rfl⟩
        have HKT : Hid (∀ w' u0 u1 u2, Below wr.heap.size wr w' → ((((w'.setCell ⟨w.heap.size + 1, 0, none⟩ u0).setCell ⟨w.heap.size + 1, 1, none⟩ u1).setCell ⟨w.heap.size + 1, 2, none⟩ u2).cell? ⟨w.heap.size, 0, none⟩ = some (.slice (some ⟨b', o', none⟩) S.length cS) ∧ (((w'.setCell ⟨w.heap.size + 1, 0, none⟩ u0).setCell ⟨w.heap.size + 1, 1, none⟩ u1).setCell ⟨w.heap.size + 1, 2, none⟩ u2).cell? ⟨w.heap.size, 1, none⟩ = some (.slice aM M.length cM) ∧ (((w'.setCell ⟨w.heap.size + 1, 0, none⟩ u0).setCell ⟨w.heap.size + 1, 1, none⟩ u1).setCell ⟨w.heap.size + 1, 2, none⟩ u2).cell? ⟨w.heap.size, 2, none⟩ = some (.int .i64 L))) := Lib.hid fun w' u0 u1 u2 h =>
          have hh := (((HK.out _ (below_of HbW.out h HbW.out.size)).set (k := 1) rfl 0 u0).set (k := 1) rfl 1 u1).set (k := 1) rfl 2 u2
          ⟨hh.cell (k := 0) (i := 0) rfl rfl, hh.cell (k := 0) (i := 1) rfl rfl, hh.cell (k := 0) (i := 2) rfl rfl⟩
        have Hr0 : Hid (Below wr.heap.size wr wr.drew) := Lib.hid (Below.refl _ _).drew
        have HMV : Hid (Calls Try.prog 119 #[.agg #[.slice (some ⟨b', o', none⟩) S.length cS, .slice aM M.length cM, .int .i64 L], .slice (some ⟨bT, 0, none⟩) S.length S.length, .bool false] wr.drew fun e w'' => ∃ b : Nat, e = .returned (.slice (some ⟨b, 0, none⟩) M.length M.length) ∧ Row w'' b 3 (ints (mvL (trn (r1B S M i)) M)) ∧ Below wr.drew.heap.size wr.drew w'' ∧ wr.drew.heap.size ≤ b) := Lib.hid (by
          have e1 : roT S l = lst S.length (r1B S M i) := roT_all Hv.out Hl.out
          have hrT := HrT.out
          rw [e1] at hrT
          have hT : (lst S.length (r1B S M i)).length = S.length := lst_len _ _
          have h := rmove_turn S M (lst S.length (r1B S M i)) L (some ⟨b', o', none⟩) aM (some ⟨bT, 0, none⟩) cS cM S.length S.length wr.drew hS64 Hs.out.len hT (fun x hx => ⟨Hs.out.mt_lt hx, (Hs.out.cast x hx).symm⟩) (fun c hc => by
            rw [lst_nth hc]; have := r1B_bd S M i c; omega) ((HK.out _ (below_of HbW.out Hr0.out HbW.out.size)).came HSM.out.2) (hrT.later Hr0.out hrT.lt).at
          rw [hT, roT_move Hs.out] at h
          exact h)
        have HeG : Hid (roS S l = mulS S (r1S S M i)) := Lib.hid (roS_all Hv.out Hl.out)
        go_region_held3 (fun w' => w'.cell? ⟨w.heap.size, 0, none⟩ = some (.slice (some ⟨b', o', none⟩) S.length cS) ∧ w'.cell? ⟨w.heap.size, 1, none⟩ = some (.slice aM M.length cM) ∧ w'.cell? ⟨w.heap.size, 2, none⟩ = some (.int .i64 L))
          (first
            | with_reducible exact HKS.out _ Hr0.out
            | with_reducible exact HKS.out _ HrF.out
            | with_reducible exact HKT.out _ _ _ _ HrF.out)
          (first
            | ((with_reducible refine HMV.out.mono ?_); rintro e w6 ⟨b6, rfl, hr6, hb6, hlo6⟩; have HmF := Lib.hid hr6; have HloF := Lib.hid (Nat.le_trans Hr0.out.size hlo6); have HrF := Lib.hid (below_of Hr0.out hb6 Hr0.out.size); clear hr6 hlo6 hb6; have hd0 := (HK.out _ (below_of HbW.out HrF.out HbW.out.size)).cell (k := 1) (i := 0) rfl rfl; have hf0 := (HK.out _ (below_of HbW.out HrF.out HbW.out.size)).frozen (k := 1) rfl 0; have hd1 := (HK.out _ (below_of HbW.out HrF.out HbW.out.size)).cell (k := 1) (i := 1) rfl rfl; have hf1 := (HK.out _ (below_of HbW.out HrF.out HbW.out.size)).frozen (k := 1) rfl 1; have hd2 := (HK.out _ (below_of HbW.out HrF.out HbW.out.size)).cell (k := 1) (i := 2) rfl rfl; have hf2 := (HK.out _ (below_of HbW.out HrF.out HbW.out.size)).frozen (k := 1) rfl 2))
        all_goals
          clear hd0 hd1 hd2 hf0 hf1 hf2
          have HKF := Lib.hid (HK.out _ (below_of HbW.out HrF.out HbW.out.size))
          have HoF := Lib.hid ((HoG.out.later HrF.out (Nat.le_refl _)).mono (HK.out _ (Below.refl _ _)).below.size)
          rw [HeG.out] at HoF
          have H9 := Lib.hid (((HKF.out.set (k := 1) rfl 0 (.slice aG S.length cG)).set (k := 1) rfl 1 (.slice (some ⟨b6, 0, none⟩) M.length M.length)).set (k := 1) rfl 2 (.int .i64 L))
          have hF0 := H9.out.cell (k := 1) (i := 0) rfl rfl
          have hF1 := H9.out.cell (k := 1) (i := 1) rfl rfl
          have hF2 := H9.out.cell (k := 1) (i := 2) rfl rfl
          go_wp2_with fail
          refine bodyPost_ret (v := .agg #[.slice aG S.length cG, .slice (some ⟨b6, 0, none⟩) M.length M.length, .int .i64 L]) (by simp [results, Try.results59, go_sem, hF0, hF1, hF2]) rfl ?_
          have h5 := HoF.out.box (HKF.out.row (k := 1) rfl) (.slice aG S.length cG) (.slice (some ⟨b6, 0, none⟩) M.length M.length) (.int .i64 L)
          have h6 := (HmF.out.own (Nat.le_trans (Nat.le_trans (HK.out _ (Below.refl _ _)).below.size HbW.out.size) HloF.out)).box (HKF.out.row (k := 1) rfl) (.slice aG S.length cG) (.slice (some ⟨b6, 0, none⟩) M.length M.length) (.int .i64 L)
          rw [ints_length, mvL_len] at h6
          exact ⟨_, _, _, _, rfl, h5, h6, H9.out.below⟩
  ·
    have hil2 : ((strandsL S M L).length : Int) ≤ (i : Int) := by omega
    have d5 : decide ((i : Int) < ((strandsL S M L).length : Int)) = false := decide_eq_false (by omega)
    have d6 : decide (i < (strandsL S M L).length) = false := decide_eq_false hil
    have HLE : Hid ((strandsL S M L).length ≤ i) := Lib.hid (by omega)
    go_wp2_with fail
    clear d5 d6 hil2 hil
    have HrT := Lib.hid (H2.out.row (k := 0) rfl)
    have HoG := Lib.hid (H2.out.sl (k := 0) rfl)
    have HbW := Lib.hid (H2.out.below)
    clear H2
    have HKS : Hid (∀ w', Below v2.heap.size v2 w' → w'.cell? ⟨w.heap.size, 0, none⟩ = some (.slice (some ⟨b', o', none⟩) S.length cS) ∧ w'.cell? ⟨w.heap.size, 1, none⟩ = some (.slice aM M.length cM) ∧ w'.cell? ⟨w.heap.size, 2, none⟩ = some (.int .i64 L)) := Lib.hid fun w' h => have hh := HK.out _ (below_of HbW.out h HbW.out.size); ⟨hh.cell (k := 0) (i := 0) rfl rfl, hh.cell (k := 0) (i := 1) rfl rfl, hh.cell (k := 0) (i := 2) rfl rfl⟩
    have HKT : Hid (∀ w' u0 u1 u2, Below v2.heap.size v2 w' → ((((w'.setCell ⟨w.heap.size + 1, 0, none⟩ u0).setCell ⟨w.heap.size + 1, 1, none⟩ u1).setCell ⟨w.heap.size + 1, 2, none⟩ u2).cell? ⟨w.heap.size, 0, none⟩ = some (.slice (some ⟨b', o', none⟩) S.length cS) ∧ (((w'.setCell ⟨w.heap.size + 1, 0, none⟩ u0).setCell ⟨w.heap.size + 1, 1, none⟩ u1).setCell ⟨w.heap.size + 1, 2, none⟩ u2).cell? ⟨w.heap.size, 1, none⟩ = some (.slice aM M.length cM) ∧ (((w'.setCell ⟨w.heap.size + 1, 0, none⟩ u0).setCell ⟨w.heap.size + 1, 1, none⟩ u1).setCell ⟨w.heap.size + 1, 2, none⟩ u2).cell? ⟨w.heap.size, 2, none⟩ = some (.int .i64 L))) := Lib.hid fun w' u0 u1 u2 h =>
      have hh := (((HK.out _ (below_of HbW.out h HbW.out.size)).set (k := 1) rfl 0 u0).set (k := 1) rfl 1 u1).set (k := 1) rfl 2 u2
      ⟨hh.cell (k := 0) (i := 0) rfl rfl, hh.cell (k := 0) (i := 1) rfl rfl, hh.cell (k := 0) (i := 2) rfl rfl⟩
    have Hr0 : Hid (Below v2.heap.size v2 v2.drew) := Lib.hid (Below.refl _ _).drew
    have HMV : Hid (Calls Try.prog 119 #[.agg #[.slice (some ⟨b', o', none⟩) S.length cS, .slice aM M.length cM, .int .i64 L], .slice (some ⟨bT, 0, none⟩) S.length S.length, .bool false] v2.drew fun e w'' => ∃ b : Nat, e = .returned (.slice (some ⟨b, 0, none⟩) M.length M.length) ∧ Row w'' b 3 (ints (mvL (trn (r1B S M i)) M)) ∧ Below v2.drew.heap.size v2.drew w'' ∧ v2.drew.heap.size ≤ b) := Lib.hid (by
      have e1 : roT S [] = lst S.length (r1B S M i) := by rw [roT_nil]; exact roT_none Hv.out HLE.out
      have hrT := HrT.out
      rw [e1] at hrT
      have hT : (lst S.length (r1B S M i)).length = S.length := lst_len _ _
      have h := rmove_turn S M (lst S.length (r1B S M i)) L (some ⟨b', o', none⟩) aM (some ⟨bT, 0, none⟩) cS cM S.length S.length v2.drew hS64 Hs.out.len hT (fun x hx => ⟨Hs.out.mt_lt hx, (Hs.out.cast x hx).symm⟩) (fun c hc => by
        rw [lst_nth hc]; have := r1B_bd S M i c; omega) ((HK.out _ (below_of HbW.out Hr0.out HbW.out.size)).came HSM.out.2) (hrT.later Hr0.out hrT.lt).at
      rw [hT, roT_move Hs.out] at h
      exact h)
    have HeG : Hid (roS S [] = mulS S (r1S S M i)) := Lib.hid (by rw [roS_nil]; exact roS_none Hv.out HLE.out)
    go_region_held3 (fun w' => w'.cell? ⟨w.heap.size, 0, none⟩ = some (.slice (some ⟨b', o', none⟩) S.length cS) ∧ w'.cell? ⟨w.heap.size, 1, none⟩ = some (.slice aM M.length cM) ∧ w'.cell? ⟨w.heap.size, 2, none⟩ = some (.int .i64 L))
      (first
        | with_reducible exact HKS.out _ Hr0.out
        | with_reducible exact HKS.out _ HrF.out
        | with_reducible exact HKT.out _ _ _ _ HrF.out)
      (first
        | ((with_reducible refine HMV.out.mono ?_); rintro e w6 ⟨b6, rfl, hr6, hb6, hlo6⟩; have HmF := Lib.hid hr6; have HloF := Lib.hid (Nat.le_trans Hr0.out.size hlo6); have HrF := Lib.hid (below_of Hr0.out hb6 Hr0.out.size); clear hr6 hlo6 hb6; have hd0 := (HK.out _ (below_of HbW.out HrF.out HbW.out.size)).cell (k := 1) (i := 0) rfl rfl; have hf0 := (HK.out _ (below_of HbW.out HrF.out HbW.out.size)).frozen (k := 1) rfl 0; have hd1 := (HK.out _ (below_of HbW.out HrF.out HbW.out.size)).cell (k := 1) (i := 1) rfl rfl; have hf1 := (HK.out _ (below_of HbW.out HrF.out HbW.out.size)).frozen (k := 1) rfl 1; have hd2 := (HK.out _ (below_of HbW.out HrF.out HbW.out.size)).cell (k := 1) (i := 2) rfl rfl; have hf2 := (HK.out _ (below_of HbW.out HrF.out HbW.out.size)).frozen (k := 1) rfl 2))
    all_goals
      clear hd0 hd1 hd2 hf0 hf1 hf2
      have HKF := Lib.hid (HK.out _ (below_of HbW.out HrF.out HbW.out.size))
      have HoF := Lib.hid ((HoG.out.later HrF.out (Nat.le_refl _)).mono (HK.out _ (Below.refl _ _)).below.size)
      rw [HeG.out] at HoF
      have H9 := Lib.hid (((HKF.out.set (k := 1) rfl 0 (.slice aG S.length cG)).set (k := 1) rfl 1 (.slice (some ⟨b6, 0, none⟩) M.length M.length)).set (k := 1) rfl 2 (.int .i64 L))
      have hF0 := H9.out.cell (k := 1) (i := 0) rfl rfl
      have hF1 := H9.out.cell (k := 1) (i := 1) rfl rfl
      have hF2 := H9.out.cell (k := 1) (i := 2) rfl rfl
      go_wp2_with fail
      refine bodyPost_ret (v := .agg #[.slice aG S.length cG, .slice (some ⟨b6, 0, none⟩) M.length M.length, .int .i64 L]) (by simp [results, Try.results59, go_sem, hF0, hF1, hF2]) rfl ?_
      have h5 := HoF.out.box (HKF.out.row (k := 1) rfl) (.slice aG S.length cG) (.slice (some ⟨b6, 0, none⟩) M.length M.length) (.int .i64 L)
      have h6 := (HmF.out.own (Nat.le_trans (Nat.le_trans (HK.out _ (Below.refl _ _)).below.size HbW.out.size) HloF.out)).box (HKF.out.row (k := 1) rfl) (.slice aG S.length cG) (.slice (some ⟨b6, 0, none⟩) M.length M.length) (.int .i64 L)
      rw [ints_length, mvL_len] at h6
      exact ⟨_, _, _, _, rfl, h5, h6, H9.out.below⟩
set_option maxRecDepth 100000 in
set_option maxHeartbeats 16000000 in
theorem rrone_nil (S M : List Int) (L : Int) (aM : Option Addr) (cS cM i : Nat) (w : World) (hv : vldB S M L = true) (h0S : S.length = 0) (hi : (i : Int) < ((strandsL S M L).length : Int) + L) (hS : IntsAt w none S) (hM : IntsAt w aM M) :
    Calls Try.prog 59 #[.agg #[.slice none S.length cS, .slice aM M.length cM, .int .i64 L], .int .i64 (i : Int)] w (RfR w S.length M.length (mulS S (r1S S M i)) (mvL (trn (r1B S M i)) M) L) := by
  have hs := vldB_shape hv
  have hS64 := hs.few
  have hM256 : M.length ≤ 256 := by have := hs.len; omega
  have hL1 := hs.hi
  have hfw := (strandsL_lists hv).few
  have Hs := Lib.hid hs
  have Hv := Lib.hid hv
  obtain ⟨W, hW⟩ : ∃ W, W = (w.alloc (.cells #[.slice none S.length cS, .slice aM M.length cM, .int .i64 L] 24)).alloc (.cells #[.slice none 0 0, .slice none 0 0, .int .i64 0] 24) := ⟨_, rfl⟩
  have h0 : HH w W [(w.heap.size, rowO 24 [.slice none S.length cS, .slice aM M.length cM, .int .i64 L]), (w.heap.size + 1, rowO 24 [.slice none 0 0, .slice none 0 0, .int .i64 0])] [] := by
    rw [hW]; exact ((HH.start w).alloc #[.slice none S.length cS, .slice aM M.length cM, .int .i64 L] 24 rfl rfl).alloc #[.slice none 0 0, .slice none 0 0, .int .i64 0] 24 (by simp) rfl
  have H0 := Lib.hid h0
  have HR1 : Hid (Calls Try.prog 129 #[.agg #[.slice none S.length cS, .slice aM M.length cM, .int .i64 L]] W fun e w' => ∃ a c, e = .returned (.slice a (strandsL S M L).length c) ∧ Below W.heap.size W w' ∧ OwnRows w' W.heap.size a c ((strandsL S M L).map nats)) := Lib.hid (by
    have h := rstrands_any S M L S.length none aM cS cM W (by omega) rfl (h0.came hS) hs.len hs.mates2.ok (h0.came hM)
    rw [rstrandsL_eq hv] at h
    exact h)
  have hmk := run_mk S.length (by omega)
  have HSM := Lib.hid (And.intro hS hM)
  have hi400 : (i : Int) ≤ 400 := by omega
  have Hz0 := Lib.hid h0S
  clear h0S
  have Hi := Lib.hid hi
  clear hs hv hS hM h0 hi
  go_enter Try.func59, Try.ntmps59
  go_upto_region 1 with fail
  rw [← hW]
  clear hW
  have hc0 := H0.out.cell (k := 0) (i := 0) rfl rfl
  have hc1 := H0.out.cell (k := 0) (i := 1) rfl rfl
  have hc2 := H0.out.cell (k := 0) (i := 2) rfl rfl
  go_wp2_with fail
  refine HR1.out.mono ?_
  rintro e w1 ⟨A, c, rfl, hb1, hR⟩
  have HR := Lib.hid hR
  have HK0 := Lib.hid (H0.out.call hb1)
  have HK : Hid (∀ w', Below w1.heap.size w1 w' → HH w w' [(w.heap.size, rowO 24 [.slice none S.length cS, .slice aM M.length cM, .int .i64 L]), (w.heap.size + 1, rowO 24 [.slice none 0 0, .slice none 0 0, .int .i64 0])] []) := Lib.hid fun w' h => HK0.out.call h
  clear hb1 hR hc0 hc1 hc2 HR1 H0 HK0
  have hc0 := (HK.out _ (Below.refl _ _)).cell (k := 0) (i := 0) rfl rfl
  go_upto_region 3 with fail
  obtain ⟨v, hv⟩ : ∃ x, x = w1.alloc (.cells (Array.replicate S.length (.int .i64 0)) 3) := ⟨_, rfl⟩
  rw [← hv]
  have h1 : HH w1 v [(w1.heap.size, rowO 3 (ints (roT S [])))] [] := by
    rw [hv, roT_nil]; exact (HH.start w1).alloc _ 3 rfl (zeros_ints _)
  obtain ⟨bT, hbT⟩ : ∃ x, x = w1.heap.size := ⟨_, rfl⟩
  rw [← hbT] at h1
  rw [← hbT]
  have H1 := Lib.hid h1
  clear hbT hv h1 hc0
  have hbe : Below v.heap.size v (v.alloc (.cells #[] 3)) := (Below.refl _ _).alloc (Nat.le_refl _) _
  have hb1e : Below w1.heap.size w1 (v.alloc (.cells #[] 3)) := below_of H1.out.below hbe H1.out.below.size
  obtain ⟨aG, cG, v2, hrun, hown, hb2⟩ := run_append_cp (v.alloc (.cells #[] 3)) v.heap.size v.heap.size (Nat.le_refl _) (Row.new v #[] 3) S (none) cS 22 (by omega) ((HK.out _ hb1e).came HSM.out.1)
  have Hrun := Lib.hid hrun
  have H2 : Hid (HH w1 v2 [(bT, rowO 3 (ints (roT S [])))] [⟨aG, cG, 3, ints (roS S [])⟩]) := Lib.hid (by
    rw [roS_nil]; exact H1.out.addSl (below_step hbe hb2) hown)
  have hc0_0 := (HK.out _ hb1e).cell (k := 0) (i := 0) rfl rfl
  clear hrun hown hb2 hbe hb1e
  go_upto_region 4 with (refine wpList_append_all rfl (.tmp 16) (.tmp 18) rfl (.slice (some ⟨v.heap.size, 0, none⟩) 0 0) (.slice none S.length cS) _ _ rfl rfl Hrun.out ?_)
  clear hc0_0 H1 Hrun
  have hil : ¬ i < (strandsL S M L).length := by
    have h1 : (strandsL S M L).length = 0 := by
      rw [strandsL_leasts Hv.out, List.length_map, List.length_eq_zero_iff, List.eq_nil_iff_forall_not_mem]
      intro r hr
      have := ((mem_leasts Hs.out).1 hr).1
      rw [Hz0.out] at this
      omega
    omega
  have hil2 : ((strandsL S M L).length : Int) ≤ (i : Int) := by omega
  have d5 : decide ((i : Int) < ((strandsL S M L).length : Int)) = false := decide_eq_false (by omega)
  have d6 : decide (i < (strandsL S M L).length) = false := decide_eq_false hil
  have HLE : Hid ((strandsL S M L).length ≤ i) := Lib.hid (by omega)
  go_wp2_with fail
  clear d5 d6 hil2 hil
  have HrT := Lib.hid (H2.out.row (k := 0) rfl)
  have HoG := Lib.hid (H2.out.sl (k := 0) rfl)
  have HbW := Lib.hid (H2.out.below)
  clear H2
  have HKS : Hid (∀ w', Below v2.heap.size v2 w' → w'.cell? ⟨w.heap.size, 0, none⟩ = some (.slice none S.length cS) ∧ w'.cell? ⟨w.heap.size, 1, none⟩ = some (.slice aM M.length cM) ∧ w'.cell? ⟨w.heap.size, 2, none⟩ = some (.int .i64 L)) := Lib.hid fun w' h => have hh := HK.out _ (below_of HbW.out h HbW.out.size); ⟨hh.cell (k := 0) (i := 0) rfl rfl, hh.cell (k := 0) (i := 1) rfl rfl, hh.cell (k := 0) (i := 2) rfl rfl⟩
  have HKT : Hid (∀ w' u0 u1 u2, Below v2.heap.size v2 w' → ((((w'.setCell ⟨w.heap.size + 1, 0, none⟩ u0).setCell ⟨w.heap.size + 1, 1, none⟩ u1).setCell ⟨w.heap.size + 1, 2, none⟩ u2).cell? ⟨w.heap.size, 0, none⟩ = some (.slice none S.length cS) ∧ (((w'.setCell ⟨w.heap.size + 1, 0, none⟩ u0).setCell ⟨w.heap.size + 1, 1, none⟩ u1).setCell ⟨w.heap.size + 1, 2, none⟩ u2).cell? ⟨w.heap.size, 1, none⟩ = some (.slice aM M.length cM) ∧ (((w'.setCell ⟨w.heap.size + 1, 0, none⟩ u0).setCell ⟨w.heap.size + 1, 1, none⟩ u1).setCell ⟨w.heap.size + 1, 2, none⟩ u2).cell? ⟨w.heap.size, 2, none⟩ = some (.int .i64 L))) := Lib.hid fun w' u0 u1 u2 h =>
    have hh := (((HK.out _ (below_of HbW.out h HbW.out.size)).set (k := 1) rfl 0 u0).set (k := 1) rfl 1 u1).set (k := 1) rfl 2 u2
    ⟨hh.cell (k := 0) (i := 0) rfl rfl, hh.cell (k := 0) (i := 1) rfl rfl, hh.cell (k := 0) (i := 2) rfl rfl⟩
  have Hr0 : Hid (Below v2.heap.size v2 v2.drew) := Lib.hid (Below.refl _ _).drew
  have HMV : Hid (Calls Try.prog 119 #[.agg #[.slice none S.length cS, .slice aM M.length cM, .int .i64 L], .slice (some ⟨bT, 0, none⟩) S.length S.length, .bool false] v2.drew fun e w'' => ∃ b : Nat, e = .returned (.slice (some ⟨b, 0, none⟩) M.length M.length) ∧ Row w'' b 3 (ints (mvL (trn (r1B S M i)) M)) ∧ Below v2.drew.heap.size v2.drew w'' ∧ v2.drew.heap.size ≤ b) := Lib.hid (by
    have e1 : roT S [] = lst S.length (r1B S M i) := by rw [roT_nil]; exact roT_none Hv.out HLE.out
    have hrT := HrT.out
    rw [e1] at hrT
    have hT : (lst S.length (r1B S M i)).length = S.length := lst_len _ _
    have h := rmove_turn S M (lst S.length (r1B S M i)) L none aM (some ⟨bT, 0, none⟩) cS cM S.length S.length v2.drew hS64 Hs.out.len hT (fun x hx => ⟨Hs.out.mt_lt hx, (Hs.out.cast x hx).symm⟩) (fun c hc => by
      rw [lst_nth hc]; have := r1B_bd S M i c; omega) ((HK.out _ (below_of HbW.out Hr0.out HbW.out.size)).came HSM.out.2) (hrT.later Hr0.out hrT.lt).at
    rw [hT, roT_move Hs.out] at h
    exact h)
  have HeG : Hid (roS S [] = mulS S (r1S S M i)) := Lib.hid (by rw [roS_nil]; exact roS_none Hv.out HLE.out)
  go_region_held3 (fun w' => w'.cell? ⟨w.heap.size, 0, none⟩ = some (.slice none S.length cS) ∧ w'.cell? ⟨w.heap.size, 1, none⟩ = some (.slice aM M.length cM) ∧ w'.cell? ⟨w.heap.size, 2, none⟩ = some (.int .i64 L))
    (first
      | with_reducible exact HKS.out _ Hr0.out
      | with_reducible exact HKS.out _ HrF.out
      | with_reducible exact HKT.out _ _ _ _ HrF.out)
    (first
      | ((with_reducible refine HMV.out.mono ?_); rintro e w6 ⟨b6, rfl, hr6, hb6, hlo6⟩; have HmF := Lib.hid hr6; have HloF := Lib.hid (Nat.le_trans Hr0.out.size hlo6); have HrF := Lib.hid (below_of Hr0.out hb6 Hr0.out.size); clear hr6 hlo6 hb6; have hd0 := (HK.out _ (below_of HbW.out HrF.out HbW.out.size)).cell (k := 1) (i := 0) rfl rfl; have hf0 := (HK.out _ (below_of HbW.out HrF.out HbW.out.size)).frozen (k := 1) rfl 0; have hd1 := (HK.out _ (below_of HbW.out HrF.out HbW.out.size)).cell (k := 1) (i := 1) rfl rfl; have hf1 := (HK.out _ (below_of HbW.out HrF.out HbW.out.size)).frozen (k := 1) rfl 1; have hd2 := (HK.out _ (below_of HbW.out HrF.out HbW.out.size)).cell (k := 1) (i := 2) rfl rfl; have hf2 := (HK.out _ (below_of HbW.out HrF.out HbW.out.size)).frozen (k := 1) rfl 2))
  all_goals
    clear hd0 hd1 hd2 hf0 hf1 hf2
    have HKF := Lib.hid (HK.out _ (below_of HbW.out HrF.out HbW.out.size))
    have HoF := Lib.hid ((HoG.out.later HrF.out (Nat.le_refl _)).mono (HK.out _ (Below.refl _ _)).below.size)
    rw [HeG.out] at HoF
    have H9 := Lib.hid (((HKF.out.set (k := 1) rfl 0 (.slice aG S.length cG)).set (k := 1) rfl 1 (.slice (some ⟨b6, 0, none⟩) M.length M.length)).set (k := 1) rfl 2 (.int .i64 L))
    have hF0 := H9.out.cell (k := 1) (i := 0) rfl rfl
    have hF1 := H9.out.cell (k := 1) (i := 1) rfl rfl
    have hF2 := H9.out.cell (k := 1) (i := 2) rfl rfl
    go_wp2_with fail
    refine bodyPost_ret (v := .agg #[.slice aG S.length cG, .slice (some ⟨b6, 0, none⟩) M.length M.length, .int .i64 L]) (by simp [results, Try.results59, go_sem, hF0, hF1, hF2]) rfl ?_
    have h5 := HoF.out.box (HKF.out.row (k := 1) rfl) (.slice aG S.length cG) (.slice (some ⟨b6, 0, none⟩) M.length M.length) (.int .i64 L)
    have h6 := (HmF.out.own (Nat.le_trans (Nat.le_trans (HK.out _ (Below.refl _ _)).below.size HbW.out.size) HloF.out)).box (HKF.out.row (k := 1) rfl) (.slice aG S.length cG) (.slice (some ⟨b6, 0, none⟩) M.length M.length) (.int .i64 L)
    rw [ints_length, mvL_len] at h6
    exact ⟨_, _, _, _, rfl, h5, h6, H9.out.below⟩
set_option maxRecDepth 100000 in
set_option maxHeartbeats 16000000 in
theorem rrone_zero (S M : List Int) (L : Int) (aM : Option Addr) (x : Addr) (cS cM i : Nat) (w : World) (hv : vldB S M L = true) (h0S : S.length = 0) (hi : (i : Int) < ((strandsL S M L).length : Int) + L) (hS : IntsAt w (some x) S) (hM : IntsAt w aM M) :
    Calls Try.prog 59 #[.agg #[.slice (some x) S.length cS, .slice aM M.length cM, .int .i64 L], .int .i64 (i : Int)] w (RfR w S.length M.length (mulS S (r1S S M i)) (mvL (trn (r1B S M i)) M) L) := by
  have hs := vldB_shape hv
  have hS64 := hs.few
  have hM256 : M.length ≤ 256 := by have := hs.len; omega
  have hL1 := hs.hi
  have hfw := (strandsL_lists hv).few
  have Hs := Lib.hid hs
  have Hv := Lib.hid hv
  obtain ⟨W, hW⟩ : ∃ W, W = (w.alloc (.cells #[.slice (some x) S.length cS, .slice aM M.length cM, .int .i64 L] 24)).alloc (.cells #[.slice none 0 0, .slice none 0 0, .int .i64 0] 24) := ⟨_, rfl⟩
  have h0 : HH w W [(w.heap.size, rowO 24 [.slice (some x) S.length cS, .slice aM M.length cM, .int .i64 L]), (w.heap.size + 1, rowO 24 [.slice none 0 0, .slice none 0 0, .int .i64 0])] [] := by
    rw [hW]; exact ((HH.start w).alloc #[.slice (some x) S.length cS, .slice aM M.length cM, .int .i64 L] 24 rfl rfl).alloc #[.slice none 0 0, .slice none 0 0, .int .i64 0] 24 (by simp) rfl
  have H0 := Lib.hid h0
  have HR1 : Hid (Calls Try.prog 129 #[.agg #[.slice (some x) S.length cS, .slice aM M.length cM, .int .i64 L]] W fun e w' => ∃ a c, e = .returned (.slice a (strandsL S M L).length c) ∧ Below W.heap.size W w' ∧ OwnRows w' W.heap.size a c ((strandsL S M L).map nats)) := Lib.hid (by
    have h := rstrands_any S M L S.length (some x) aM cS cM W (by omega) rfl (h0.came hS) hs.len hs.mates2.ok (h0.came hM)
    rw [rstrandsL_eq hv] at h
    exact h)
  have hmk := run_mk S.length (by omega)
  have HSM := Lib.hid (And.intro hS hM)
  have hi400 : (i : Int) ≤ 400 := by omega
  have Hz0 := Lib.hid h0S
  clear h0S
  have Hi := Lib.hid hi
  clear hs hv hS hM h0 hi
  go_enter Try.func59, Try.ntmps59
  go_upto_region 1 with fail
  rw [← hW]
  clear hW
  have hc0 := H0.out.cell (k := 0) (i := 0) rfl rfl
  have hc1 := H0.out.cell (k := 0) (i := 1) rfl rfl
  have hc2 := H0.out.cell (k := 0) (i := 2) rfl rfl
  go_wp2_with fail
  refine HR1.out.mono ?_
  rintro e w1 ⟨A, c, rfl, hb1, hR⟩
  have HR := Lib.hid hR
  have HK0 := Lib.hid (H0.out.call hb1)
  have HK : Hid (∀ w', Below w1.heap.size w1 w' → HH w w' [(w.heap.size, rowO 24 [.slice (some x) S.length cS, .slice aM M.length cM, .int .i64 L]), (w.heap.size + 1, rowO 24 [.slice none 0 0, .slice none 0 0, .int .i64 0])] []) := Lib.hid fun w' h => HK0.out.call h
  clear hb1 hR hc0 hc1 hc2 HR1 H0 HK0
  have hc0 := (HK.out _ (Below.refl _ _)).cell (k := 0) (i := 0) rfl rfl
  go_upto_region 3 with fail
  obtain ⟨v, hv⟩ : ∃ x, x = w1.alloc (.cells (Array.replicate S.length (.int .i64 0)) 3) := ⟨_, rfl⟩
  rw [← hv]
  have h1 : HH w1 v [(w1.heap.size, rowO 3 (ints (roT S [])))] [] := by
    rw [hv, roT_nil]; exact (HH.start w1).alloc _ 3 rfl (zeros_ints _)
  obtain ⟨bT, hbT⟩ : ∃ x, x = w1.heap.size := ⟨_, rfl⟩
  rw [← hbT] at h1
  rw [← hbT]
  have H1 := Lib.hid h1
  clear hbT hv h1 hc0
  have hbe : Below v.heap.size v (v.alloc (.cells #[] 3)) := (Below.refl _ _).alloc (Nat.le_refl _) _
  have hb1e : Below w1.heap.size w1 (v.alloc (.cells #[] 3)) := below_of H1.out.below hbe H1.out.below.size
  obtain ⟨aG, cG, v2, hrun, hown, hb2⟩ := run_append_cp (v.alloc (.cells #[] 3)) v.heap.size v.heap.size (Nat.le_refl _) (Row.new v #[] 3) S ((some x)) cS 22 (by omega) ((HK.out _ hb1e).came HSM.out.1)
  have Hrun := Lib.hid hrun
  have H2 : Hid (HH w1 v2 [(bT, rowO 3 (ints (roT S [])))] [⟨aG, cG, 3, ints (roS S [])⟩]) := Lib.hid (by
    rw [roS_nil]; exact H1.out.addSl (below_step hbe hb2) hown)
  have hc0_0 := (HK.out _ hb1e).cell (k := 0) (i := 0) rfl rfl
  clear hrun hown hb2 hbe hb1e
  go_upto_region 4 with (refine wpList_append_all rfl (.tmp 16) (.tmp 18) rfl (.slice (some ⟨v.heap.size, 0, none⟩) 0 0) (.slice (some x) S.length cS) _ _ rfl rfl Hrun.out ?_)
  clear hc0_0 H1 Hrun
  have hil : ¬ i < (strandsL S M L).length := by
    have h1 : (strandsL S M L).length = 0 := by
      rw [strandsL_leasts Hv.out, List.length_map, List.length_eq_zero_iff, List.eq_nil_iff_forall_not_mem]
      intro r hr
      have := ((mem_leasts Hs.out).1 hr).1
      rw [Hz0.out] at this
      omega
    omega
  have hil2 : ((strandsL S M L).length : Int) ≤ (i : Int) := by omega
  have d5 : decide ((i : Int) < ((strandsL S M L).length : Int)) = false := decide_eq_false (by omega)
  have d6 : decide (i < (strandsL S M L).length) = false := decide_eq_false hil
  have HLE : Hid ((strandsL S M L).length ≤ i) := Lib.hid (by omega)
  go_wp2_with fail
  clear d5 d6 hil2 hil
  have HrT := Lib.hid (H2.out.row (k := 0) rfl)
  have HoG := Lib.hid (H2.out.sl (k := 0) rfl)
  have HbW := Lib.hid (H2.out.below)
  clear H2
  have HKS : Hid (∀ w', Below v2.heap.size v2 w' → w'.cell? ⟨w.heap.size, 0, none⟩ = some (.slice (some x) S.length cS) ∧ w'.cell? ⟨w.heap.size, 1, none⟩ = some (.slice aM M.length cM) ∧ w'.cell? ⟨w.heap.size, 2, none⟩ = some (.int .i64 L)) := Lib.hid fun w' h => have hh := HK.out _ (below_of HbW.out h HbW.out.size); ⟨hh.cell (k := 0) (i := 0) rfl rfl, hh.cell (k := 0) (i := 1) rfl rfl, hh.cell (k := 0) (i := 2) rfl rfl⟩
  have HKT : Hid (∀ w' u0 u1 u2, Below v2.heap.size v2 w' → ((((w'.setCell ⟨w.heap.size + 1, 0, none⟩ u0).setCell ⟨w.heap.size + 1, 1, none⟩ u1).setCell ⟨w.heap.size + 1, 2, none⟩ u2).cell? ⟨w.heap.size, 0, none⟩ = some (.slice (some x) S.length cS) ∧ (((w'.setCell ⟨w.heap.size + 1, 0, none⟩ u0).setCell ⟨w.heap.size + 1, 1, none⟩ u1).setCell ⟨w.heap.size + 1, 2, none⟩ u2).cell? ⟨w.heap.size, 1, none⟩ = some (.slice aM M.length cM) ∧ (((w'.setCell ⟨w.heap.size + 1, 0, none⟩ u0).setCell ⟨w.heap.size + 1, 1, none⟩ u1).setCell ⟨w.heap.size + 1, 2, none⟩ u2).cell? ⟨w.heap.size, 2, none⟩ = some (.int .i64 L))) := Lib.hid fun w' u0 u1 u2 h =>
    have hh := (((HK.out _ (below_of HbW.out h HbW.out.size)).set (k := 1) rfl 0 u0).set (k := 1) rfl 1 u1).set (k := 1) rfl 2 u2
    ⟨hh.cell (k := 0) (i := 0) rfl rfl, hh.cell (k := 0) (i := 1) rfl rfl, hh.cell (k := 0) (i := 2) rfl rfl⟩
  have Hr0 : Hid (Below v2.heap.size v2 v2.drew) := Lib.hid (Below.refl _ _).drew
  have HMV : Hid (Calls Try.prog 119 #[.agg #[.slice (some x) S.length cS, .slice aM M.length cM, .int .i64 L], .slice (some ⟨bT, 0, none⟩) S.length S.length, .bool false] v2.drew fun e w'' => ∃ b : Nat, e = .returned (.slice (some ⟨b, 0, none⟩) M.length M.length) ∧ Row w'' b 3 (ints (mvL (trn (r1B S M i)) M)) ∧ Below v2.drew.heap.size v2.drew w'' ∧ v2.drew.heap.size ≤ b) := Lib.hid (by
    have e1 : roT S [] = lst S.length (r1B S M i) := by rw [roT_nil]; exact roT_none Hv.out HLE.out
    have hrT := HrT.out
    rw [e1] at hrT
    have hT : (lst S.length (r1B S M i)).length = S.length := lst_len _ _
    have h := rmove_turn S M (lst S.length (r1B S M i)) L (some x) aM (some ⟨bT, 0, none⟩) cS cM S.length S.length v2.drew hS64 Hs.out.len hT (fun x hx => ⟨Hs.out.mt_lt hx, (Hs.out.cast x hx).symm⟩) (fun c hc => by
      rw [lst_nth hc]; have := r1B_bd S M i c; omega) ((HK.out _ (below_of HbW.out Hr0.out HbW.out.size)).came HSM.out.2) (hrT.later Hr0.out hrT.lt).at
    rw [hT, roT_move Hs.out] at h
    exact h)
  have HeG : Hid (roS S [] = mulS S (r1S S M i)) := Lib.hid (by rw [roS_nil]; exact roS_none Hv.out HLE.out)
  go_region_held3 (fun w' => w'.cell? ⟨w.heap.size, 0, none⟩ = some (.slice (some x) S.length cS) ∧ w'.cell? ⟨w.heap.size, 1, none⟩ = some (.slice aM M.length cM) ∧ w'.cell? ⟨w.heap.size, 2, none⟩ = some (.int .i64 L))
    (first
      | with_reducible exact HKS.out _ Hr0.out
      | with_reducible exact HKS.out _ HrF.out
      | with_reducible exact HKT.out _ _ _ _ HrF.out)
    (first
      | ((with_reducible refine HMV.out.mono ?_); rintro e w6 ⟨b6, rfl, hr6, hb6, hlo6⟩; have HmF := Lib.hid hr6; have HloF := Lib.hid (Nat.le_trans Hr0.out.size hlo6); have HrF := Lib.hid (below_of Hr0.out hb6 Hr0.out.size); clear hr6 hlo6 hb6; have hd0 := (HK.out _ (below_of HbW.out HrF.out HbW.out.size)).cell (k := 1) (i := 0) rfl rfl; have hf0 := (HK.out _ (below_of HbW.out HrF.out HbW.out.size)).frozen (k := 1) rfl 0; have hd1 := (HK.out _ (below_of HbW.out HrF.out HbW.out.size)).cell (k := 1) (i := 1) rfl rfl; have hf1 := (HK.out _ (below_of HbW.out HrF.out HbW.out.size)).frozen (k := 1) rfl 1; have hd2 := (HK.out _ (below_of HbW.out HrF.out HbW.out.size)).cell (k := 1) (i := 2) rfl rfl; have hf2 := (HK.out _ (below_of HbW.out HrF.out HbW.out.size)).frozen (k := 1) rfl 2))
  all_goals
    clear hd0 hd1 hd2 hf0 hf1 hf2
    have HKF := Lib.hid (HK.out _ (below_of HbW.out HrF.out HbW.out.size))
    have HoF := Lib.hid ((HoG.out.later HrF.out (Nat.le_refl _)).mono (HK.out _ (Below.refl _ _)).below.size)
    rw [HeG.out] at HoF
    have H9 := Lib.hid (((HKF.out.set (k := 1) rfl 0 (.slice aG S.length cG)).set (k := 1) rfl 1 (.slice (some ⟨b6, 0, none⟩) M.length M.length)).set (k := 1) rfl 2 (.int .i64 L))
    have hF0 := H9.out.cell (k := 1) (i := 0) rfl rfl
    have hF1 := H9.out.cell (k := 1) (i := 1) rfl rfl
    have hF2 := H9.out.cell (k := 1) (i := 2) rfl rfl
    go_wp2_with fail
    refine bodyPost_ret (v := .agg #[.slice aG S.length cG, .slice (some ⟨b6, 0, none⟩) M.length M.length, .int .i64 L]) (by simp [results, Try.results59, go_sem, hF0, hF1, hF2]) rfl ?_
    have h5 := HoF.out.box (HKF.out.row (k := 1) rfl) (.slice aG S.length cG) (.slice (some ⟨b6, 0, none⟩) M.length M.length) (.int .i64 L)
    have h6 := (HmF.out.own (Nat.le_trans (Nat.le_trans (HK.out _ (Below.refl _ _)).below.size HbW.out.size) HloF.out)).box (HKF.out.row (k := 1) rfl) (.slice aG S.length cG) (.slice (some ⟨b6, 0, none⟩) M.length M.length) (.int .i64 L)
    rw [ints_length, mvL_len] at h6
    exact ⟨_, _, _, _, rfl, h5, h6, H9.out.below⟩
theorem rrone_any (S M : List Int) (L : Int) (aS aM : Option Addr) (cS cM i : Nat) (w : World) (hv : vldB S M L = true) (hi : (i : Int) < ((strandsL S M L).length : Int) + L) (hS : IntsAt w aS S) (hM : IntsAt w aM M) :
    Calls Try.prog 59 #[.agg #[.slice aS S.length cS, .slice aM M.length cM, .int .i64 L], .int .i64 (i : Int)] w (RfR w S.length M.length (mulS S (r1S S M i)) (mvL (trn (r1B S M i)) M) L) := by
  rcases Nat.eq_zero_or_pos S.length with h | h
  · cases aS with
    | none => exact rrone_nil S M L aM cS cM i w hv h hi hS hM
    | some x => exact rrone_zero S M L aM x cS cM i w hv h hi hS hM
  · exact rrone_some S M L aS aM cS cM i w hv h hi hS hM
end Go.Proofs.Ytkopbcehfbmnmaa
