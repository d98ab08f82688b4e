/- The walks of diagram.Strands and Components. -/
import Derived.Test.YtmjoijfafachhaaValidW
import Derived.Test.YtmjoijfafachhaaCycleA
namespace Go.Proofs.Ytmjoijfafachhaa
open Go Go.RowKit
/-- The half-edge behind h along its strand. -/
def sc (M : List Int) (h : Nat) : Nat := tn (nth M h).toNat 2
theorem Shape.injS {S M : List Int} {L : Int} (hs : Shape S M L) : Inj (sc M) (4 * S.length) := by
  refine ⟨fun x hx => tn_lt _ _ _ (hs.toNat_lt x hx), fun x y hx hy he => ?_⟩
  have h1 : (nth M x).toNat = (nth M y).toNat := by
    unfold sc tn at he
    omega
  have h2 := hs.invol x hx
  have h3 := hs.invol y hy
  rw [h1] at h2
  omega
/-- diagram.Strands' answer. -/
def strandsL (S M : List Int) (L : Int) : List (List Nat) := if vldB S M L = true then cycs (sc M) (perOf (sc M) (4 * S.length)) (outB S) (4 * S.length) else []
theorem vldB_shape {S M : List Int} {L : Int} (h : vldB S M L = true) : Shape S M L := by
  unfold vldB at h
  rw [Bool.and_eq_true, shapeB_iff] at h
  exact h.1
set_option maxRecDepth 100000 in
set_option maxHeartbeats 1000000 in
theorem strands1_any (S M : List Int) (L : Int) (aS aM : Option Addr) (cS cM : Nat) (w : World) (b : Nat) (hSl : S.length ≤ 1000000) (hS : IntsAt w aS S) (hbox : Row w b 24 [.slice aS S.length cS, .slice aM M.length cM, .int .i64 L]) :
    BoolFn w 76 #[.pointer (some ⟨b, 0, none⟩)] (4 * S.length) (outB S) := by
  intro W x hW hx
  have hbx := hbox.later hW hbox.lt
  have hc0 := hbx.cell 0
  have hc1 := hbx.cell 1
  have hc2 := hbx.cell 2
  simp only [List.getElem?_cons_succ, List.getElem?_cons_zero] at hc0 hc1 hc2
  have HC := Lib.hid (outgoing_any S M L aS aM cS cM x W hx hSl (hS.later hW))
  clear hS hbox hbx hW
  show Calls Try.prog 76 #[.int .i64 (x : Int), .pointer (some ⟨b, 0, none⟩)] W _
  go_enter Try.func76, Try.ntmps76
  go_wp2_with fail
  refine HC.out.mono ?_
  rintro e w1 ⟨rfl, hb1⟩
  go_wp2_with fail
  go_ret
  exact ⟨rfl, hb1⟩
set_option maxRecDepth 100000 in
set_option maxHeartbeats 1000000 in
theorem strands2_any (S M : List Int) (L : Int) (aS aM : Option Addr) (cS cM : Nat) (w : World) (b : Nat) (hs : Shape S M L) (hM : IntsAt w aM M) (hbox : Row w b 24 [.slice aS S.length cS, .slice aM M.length cM, .int .i64 L]) :
    NatFn w 78 #[.pointer (some ⟨b, 0, none⟩)] (4 * S.length) (sc M) := by
  intro W x hW hx
  have hbx := (hbox.later hW hbox.lt).cell 1
  simp only [List.getElem?_cons_succ, List.getElem?_cons_zero] at hbx
  obtain ⟨b2, off, rfl, hbl, hc⟩ := (hM.later hW).open (by rw [hs.len]; omega)
  have hcx := hc x (by rw [hs.len]; exact hx)
  obtain ⟨hm0, hm1⟩ := hs.range x hx
  have hres : sc M x = tn (nth M x).toNat 2 := rfl
  obtain ⟨m, hm⟩ := Int.eq_ofNat_of_zero_le hm0
  rw [hm, Int.toNat_natCast] at hres
  rw [hm] at hcx hm1
  have Hres := Lib.hid hres
  have hML : (x : Int) < (M.length : Int) := by rw [hs.len]; omega
  have hfw := hs.few
  clear hc hm hm0 hM hbox hW hres hs
  show Calls Try.prog 78 #[.int .i64 (x : Int), .pointer (some ⟨b, 0, none⟩)] W _
  go_enter Try.func78, Try.ntmps78
  go_wp2_with fail
  refine (opposite_any m _ (by omega)).mono ?_
  rintro e w1 ⟨rfl, rfl⟩
  go_wp2_with fail
  go_ret
  rw [Hres.out]
  exact ⟨rfl, Below.refl _ _⟩
set_option maxRecDepth 100000 in
set_option maxHeartbeats 1000000 in
theorem strands_any (S M : List Int) (L : Int) (aS aM : Option Addr) (cS cM : Nat) (w : World) (hSl : S.length ≤ 1000000000) (hMl : M.length ≤ 1000000000) (hS : IntsAt w aS S) (hM : IntsAt w aM M) :
    Calls Try.prog 45 #[.agg #[.slice aS S.length cS, .slice aM M.length cM, .int .i64 L]] w fun e w' => ∃ a c, e = .returned (.slice a (strandsL S M L).length c) ∧ Below w.heap.size w w' ∧ OwnRows w' w.heap.size a c ((strandsL S M L).map nats) := by
  have hB : Below w.heap.size w (w.alloc (.cells #[.slice aS S.length cS, .slice aM M.length cM, .int .i64 L] 24)) := (Below.refl _ _).alloc (Nat.le_refl _) _
  have HV := Lib.hid (valid_any S M L aS aM cS cM (w.alloc (.cells #[.slice aS S.length cS, .slice aM M.length cM, .int .i64 L] 24)) hSl hMl (hS.later hB) (hM.later hB))
  have Hbox := Lib.hid (Row.new w #[.slice aS S.length cS, .slice aM M.length cM, .int .i64 L] 24)
  by_cases hv : vldB S M L = true
  · have hsl : strandsL S M L = cycs (sc M) (perOf (sc M) (4 * S.length)) (outB S) (4 * S.length) := if_pos hv
    have hs := vldB_shape hv
    have hfw := hs.few
    rw [hv] at HV
    have Hsl := Lib.hid hsl
    have Hs := Lib.hid hs
    have HS := Lib.hid hS
    have HM := Lib.hid hM
    have HB := Lib.hid hB
    clear hv hsl hs hS hM hB hSl hMl
    go_enter Try.func45, Try.ntmps45
    go_wp2_with fail
    refine HV.out.mono ?_
    rintro e w1 ⟨rfl, hb1⟩
    have Hb1 := Lib.hid (below_of HB.out hb1 (by simp))
    have Hbox1 := Lib.hid (Hbox.out.later hb1 (by simp))
    have hc1 := Hbox1.out.cell 1
    simp only [List.getElem?_cons_succ, List.getElem?_cons_zero] at hc1
    clear hb1
    go_wp2_with fail
    rw [Hs.out.len]
    refine (cycles_any 78 76 #[.pointer (some ⟨w.heap.size, 0, none⟩)] #[.pointer (some ⟨w.heap.size, 0, none⟩)] (4 * S.length) (sc M) (perOf (sc M) (4 * S.length)) (outB S) w1 (by omega) Try.call78 Try.call76
      (strands2_any S M L aS aM cS cM w1 _ Hs.out (HM.out.later Hb1.out) Hbox1.out) (strands1_any S M L aS aM cS cM w1 _ (by omega) (HS.out.later Hb1.out) Hbox1.out) Hs.out.injS.lt (fun x hx => perOf_spec Hs.out.injS x hx) (fun x hx => Nat.le_trans (perOf_le _ _ _ (by omega)) (by omega))).mono ?_
    rintro e w2 ⟨A, c, rfl, hb2, hR⟩
    have Hb2 := Lib.hid (below_step Hb1.out hb2)
    have HR := Lib.hid (hR.mono (B' := w.heap.size) Hb1.out.size)
    clear hb2 hR
    go_wp2_with fail
    go_ret
    rw [Hsl.out]
    exact ⟨A, c, rfl, Hb2.out, HR.out⟩
  · have hsl : strandsL S M L = [] := if_neg hv
    have hv2 : vldB S M L = false := by simpa using hv
    rw [hv2] at HV
    rw [hsl]
    clear hv hv2 hsl hS hM
    go_enter Try.func45, Try.ntmps45
    go_wp2_with fail
    refine HV.out.mono ?_
    rintro e w1 ⟨rfl, hb1⟩
    have Hb1 := Lib.hid (below_of hB hb1 (by simp))
    clear hb1
    go_wp2_with fail
    go_ret
    exact ⟨none, 0, rfl, Hb1.out, OwnRows.nil _ _⟩
end Go.Proofs.Ytmjoijfafachhaa
