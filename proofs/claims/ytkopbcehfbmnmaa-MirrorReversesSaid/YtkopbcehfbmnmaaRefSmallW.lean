/- The walks of the reference's Ints, Lists and Components. -/
import Derived.Test.YtkopbcehfbmnmaaRefValidW
import Derived.Test.YtkopbcehfbmnmaaLinkFW
namespace Go.Proofs.Ytkopbcehfbmnmaa
open Go Go.RowKit
theorem list_ext_nth {xs ys : List Int} (hl : xs.length = ys.length) (h : ∀ i, i < xs.length → nth xs i = nth ys i) : xs = ys := by
  refine List.ext_getElem hl fun i h1 h2 => ?_
  have := h i h1
  simpa [nth, h1, h2] using this
set_option maxRecDepth 100000 in
set_option maxHeartbeats 2000000 in
theorem ints_any (xs ys : List Int) (a b : Option Addr) (c d : Nat) (w : World) (hx : xs.length ≤ 1000000000) (hA : IntsAt w a xs) (hB : IntsAt w b ys) :
    Calls Try.prog 107 #[.slice a xs.length c, .slice b ys.length d] w fun e w' => e = .returned (.bool (decide (xs = ys))) ∧ ∃ m, w' = w.drewN m := by
  by_cases hl : xs.length = ys.length
  · have d1 : ((xs.length : Int) != (ys.length : Int)) = false := by rw [hl]; simp
    have hl1 : xs.length ≤ ys.length := by omega
    have HA := Lib.hid hA
    have HB := Lib.hid hB
    have Hl := Lib.hid hl
    clear hl hA hB
    go_enter Try.func107, Try.ntmps107
    go_wp2_with fail
    go_loopg [5] xs.length (fun g i wr => ∃ k q : Nat, k ≤ xs.length ∧ g = xs.length - k ∧ i = .int .i64 k ∧ wr = w.drewN q ∧ ∀ j, j < k → nth xs j = nth ys j)
    case atStart => exact ⟨0, 0, Nat.zero_le _, rfl, rfl, rfl, fun j hj => by omega⟩
    case round =>
      obtain ⟨k, q, hk, rfl, rfl, rfl, he⟩ := hrel
      have He := Lib.hid he
      clear he
      by_cases hlt : k < xs.length
      · obtain ⟨ba, oa, rfl, _, hca⟩ := HA.out.open (by omega)
        obtain ⟨bb, ob, rfl, _, hcb⟩ := HB.out.open (by have := Hl.out; omega)
        have h1 := hca k hlt
        have h2 := hcb k (by have := Hl.out; omega)
        clear hca hcb
        by_cases heq : nth xs k = nth ys k
        · have t1 : (nth xs k != nth ys k) = false := by rw [heq]; simp
          have Heq := Lib.hid heq
          clear heq
          go_wp2_with fail
          go_quiet (fail)
          go_wp2_with fail
          go_roundg (xs.length - (k + 1))
          case measure => omega
          case rel =>
            refine ⟨k + 1, q + nq, by omega, rfl, by go_num, rfl, fun j hj => ?_⟩
            rcases Nat.lt_or_ge j k with h | h
            · exact He.out j h
            · obtain rfl : j = k := by omega
              exact Heq.out
        · have t1 : (nth xs k != nth ys k) = true := by simpa using heq
          have Hf : Hid (decide (xs = ys) = false) := Lib.hid (decide_eq_false fun e => heq (by rw [e]))
          clear heq
          go_wp2_with fail
          go_quiet (fail)
          go_wp2_with fail
          go_ret
          rw [Hf.out]
          exact ⟨rfl, q + nq, World.drewN_drewN _ _ _⟩
      · obtain rfl : k = xs.length := by omega
        have Hf : Hid (decide (xs = ys) = true) := Lib.hid (decide_eq_true (list_ext_nth Hl.out He.out))
        go_wp2_with fail
        go_ret
        rw [Hf.out]
        exact ⟨rfl, _, rfl⟩
  · have d1 : ((xs.length : Int) != (ys.length : Int)) = true := by rw [bne_iff_ne]; omega
    have hf : decide (xs = ys) = false := decide_eq_false fun e => hl (by rw [e])
    rw [hf]
    clear hl hf hA hB
    go_enter Try.func107, Try.ntmps107
    go_wp2_with fail
    go_ret
    exact ⟨rfl, 0, rfl⟩
theorem intsList_len {xss : List (List Int)} {k : Nat} (h : k < xss.length) : xss[k]? = some (xss.getD k []) := by simp [h]
set_option maxRecDepth 100000 in
set_option maxHeartbeats 2000000 in
theorem lists_any (xss yss : List (List Int)) (a b : Option Addr) (c d B B' : Nat) (w : World) (hx : xss.length ≤ 1000000000) (hxs : ∀ k, (xss.getD k []).length ≤ 1000000000) (hA : OwnRows w B a c xss) (hB : OwnRows w B' b d yss) :
    Calls Try.prog 38 #[.slice a xss.length c, .slice b yss.length d] w fun e w' => e = .returned (.bool (decide (xss = yss))) ∧ ∃ m, w' = w.drewN m := by
  by_cases hl : xss.length = yss.length
  · have d1 : ((xss.length : Int) != (yss.length : Int)) = false := by rw [hl]; simp
    have hl1 : xss.length ≤ yss.length := by omega
    have HA := Lib.hid hA
    have HB := Lib.hid hB
    have Hl := Lib.hid hl
    clear hl hA hB
    go_enter Try.func38, Try.ntmps38
    go_wp2_with fail
    go_loopg [5] xss.length (fun g i wr => ∃ k q : Nat, k ≤ xss.length ∧ g = xss.length - k ∧ i = .int .i64 k ∧ wr = w.drewN q ∧ ∀ j, j < k → xss.getD j [] = yss.getD j [])
    case atStart => exact ⟨0, 0, Nat.zero_le _, rfl, rfl, rfl, fun j hj => by omega⟩
    case round =>
      obtain ⟨k, q, hk, rfl, rfl, hwr, he⟩ := hrel
      have He := Lib.hid he
      have Hwr := Lib.hid hwr
      have HA1 : Hid (OwnRows wr B a c xss) := Lib.hid (by rw [hwr]; exact HA.out)
      have HB1 : Hid (OwnRows wr B' b d yss) := Lib.hid (by rw [hwr]; exact HB.out)
      clear he hwr
      by_cases hlt : k < xss.length
      · obtain ⟨ba, oa, rfl, _, _, hca⟩ := HA1.out.open (by omega)
        obtain ⟨bb, ob, rfl, _, _, hcb⟩ := HB1.out.open (by have := Hl.out; omega)
        obtain ⟨aR, cR, h1, hoa⟩ := hca k _ (intsList_len hlt)
        obtain ⟨bR, dR, h2, hob⟩ := hcb k _ (intsList_len (by have := Hl.out; omega))
        have HI : Hid (∀ N, Calls Try.prog 107 #[.slice aR (xss.getD k []).length cR, .slice bR (yss.getD k []).length dR] (wr.drewN N) (fun e w'' => e = .returned (.bool (decide (xss.getD k [] = yss.getD k []))) ∧ ∃ m, w'' = wr.drewN m)) := Lib.hid fun N =>
          (ints_any (xss.getD k []) (yss.getD k []) aR bR cR dR (wr.drewN N) (hxs k) (hoa.ints.later (below_drewNN (Below.refl _ _) N)) (hob.ints.later (below_drewNN (Below.refl _ _) N))).mono fun e w'' ⟨he, m, hm⟩ => ⟨he, N + m, by rw [hm, World.drewN_drewN]⟩
        have hky : (k : Int) < (yss.length : Int) := by omega
        have hky2 : k < yss.length := by omega
        clear hca hcb hoa hob
        have Hxs := Lib.hid (fun (e : xss = yss) => (by rw [e] : xss.getD k [] = yss.getD k []))
        generalize hX : xss.getD k [] = X at *
        generalize hY : yss.getD k [] = Y at *
        have HX := Lib.hid hX
        have HY := Lib.hid hY
        clear hX hY
        by_cases heq : X = Y
        · have t1 : decide (X = Y) = true := decide_eq_true heq
          rw [t1] at HI
          have Heq := Lib.hid heq
          clear heq t1
          go_wp2_with fail
          go_quiet ((go_at_call 107; exact HI.out _))
          go_wp2_with fail
          go_roundg (xss.length - (k + 1))
          case measure => omega
          case rel =>
            refine ⟨k + 1, q + nq, by omega, rfl, by go_num, by rw [Hwr.out]; exact World.drewN_drewN _ _ _, fun j hj => ?_⟩
            rcases Nat.lt_or_ge j k with h | h
            · exact He.out j h
            · obtain rfl : j = k := by omega
              rw [HX.out, HY.out]
              exact Heq.out
        · have t1 : decide (X = Y) = false := decide_eq_false heq
          rw [t1] at HI
          have Hf : Hid (decide (xss = yss) = false) := Lib.hid (decide_eq_false fun e => heq (Hxs.out e))
          clear heq t1
          go_wp2_with fail
          go_quiet ((go_at_call 107; exact HI.out _))
          go_wp2_with fail
          go_ret
          rw [Hf.out]
          exact ⟨rfl, q + nq, by rw [Hwr.out]; exact World.drewN_drewN _ _ _⟩
      · obtain rfl : k = xss.length := by omega
        have Hf : Hid (decide (xss = yss) = true) := Lib.hid (decide_eq_true (List.ext_getElem Hl.out fun i h1 h2 => by
          have := He.out i h1
          simpa [h1, h2] using this))
        go_wp2_with fail
        go_ret
        rw [Hf.out]
        exact ⟨rfl, q, Hwr.out⟩
  · have d1 : ((xss.length : Int) != (yss.length : Int)) = true := by rw [bne_iff_ne]; omega
    have hf : decide (xss = yss) = false := decide_eq_false fun e => hl (by rw [e])
    rw [hf]
    clear hl hf hA hB
    go_enter Try.func38, Try.ntmps38
    go_wp2_with fail
    go_ret
    exact ⟨rfl, 0, rfl⟩
theorem rstrandsL_eq {S M : List Int} {L : Int} (hv : vldB S M L = true) : clTo (fb M 2) (perOf (fb M 2) (4 * S.length)) (outB S) (4 * S.length) = strandsL S M L := (strandsL_eq hv).symm
set_option maxRecDepth 100000 in
set_option maxHeartbeats 2000000 in
theorem rcomponents_any (S M : List Int) (L : Int) (aS aM : Option Addr) (cS cM : Nat) (w : World) (hv : vldB S M L = true) (hS : IntsAt w aS S) (hM : IntsAt w aM M) :
    Calls Try.prog 58 #[.agg #[.slice aS S.length cS, .slice aM M.length cM, .int .i64 L]] w fun e w' => e = .returned (.int .i64 (compsN S M L)) ∧ Below w.heap.size w w' := by
  have hB : Below w.heap.size w (w.alloc (.cells #[.slice aS S.length cS, .slice aM M.length cM, .int .i64 L] 24)) := (Below.refl _ _).alloc (Nat.le_refl _) _
  have HBA : Hid (∀ o, Below w.heap.size w (w.alloc o)) := Lib.hid fun o => (Below.refl _ _).alloc (Nat.le_refl _) o
  have Hbox := Lib.hid (Row.new w #[.slice aS S.length cS, .slice aM M.length cM, .int .i64 L] 24)
  have hs := vldB_shape hv
  have Hc : Hid (compsN S M L = ((strandsL S M L).length : Int) + L) := Lib.hid (if_pos hv)
  have hl1 := (strandsL_lists hv).few
  have hl2 := hs.few
  have hl3 := hs.lo
  have hl4 := hs.hi
  have HSt : Hid (∀ W, Below (w.alloc (.cells #[.slice aS S.length cS, .slice aM M.length cM, .int .i64 L] 24)).heap.size (w.alloc (.cells #[.slice aS S.length cS, .slice aM M.length cM, .int .i64 L] 24)) W → Calls Try.prog 129 #[.agg #[.slice aS S.length cS, .slice aM M.length cM, .int .i64 L]] W fun e w' => ∃ a c, e = .returned (.slice a (strandsL S M L).length c) ∧ Below w.heap.size w w' ∧ w'.cell? ⟨w.heap.size, 2, none⟩ = some (.int .i64 L)) := Lib.hid fun W hW => by
    have hW2 : Below w.heap.size w W := below_of hB hW (by simp)
    refine (rstrands_any S M L S.length aS aM cS cM W (by omega) rfl (hS.later hW2) hs.len hs.mates (hM.later hW2)).mono ?_
    rintro e w' ⟨a, c, he, hb, _⟩
    rw [rstrandsL_eq hv] at he
    have hr := (Hbox.out.later hW (by simp)).later hb (by have := (Hbox.out.later hW (by simp)).lt; exact this)
    have h1 := hr.cell 2
    exact ⟨a, c, he, below_step hW2 hb, by simpa using h1⟩
  generalize (strandsL S M L).length = ln at *
  clear hs hv hS hM hB Hbox
  go_enter Try.func58, Try.ntmps58
  go_wp2_with fail
  go_region_with (go_at_call 129; refine (HSt.out _ ((Below.refl _ _).drew)).mono ?_; rintro e w2 ⟨a, c, rfl, hb2, hc2'⟩)
  all_goals (have Hb2 := Lib.hid hb2; go_wp2_with fail; go_ret; rw [Hc.out]; refine ⟨?_, Hb2.out⟩; clear HBA HSt; simp [Act.put]; rw [IntKind.wrap_i64]; omega)
end Go.Proofs.Ytkopbcehfbmnmaa
