/- The number of faces does not change where the crossings stay joined as they were; diagram.Faces. -/
import Derived.Test.YtkopbcehfbmnmaaSmoothA
import Derived.Test.YtkopbcehfbmnmaaStrandsW
import Derived.Test.YtkopbcehfbmnmaaMirB
import Derived.Test.YtkopbcehfbmnmaaRevA
namespace Go.Proofs.Ytkopbcehfbmnmaa
open Go Go.RowKit
section
variable {M M' : List Int} {n : Nat} {τ : Nat → Nat}
theorem conn_ahead (hm : MateOk M n) (hτ : ∀ x, x < 4 * n → τ x / 4 = x / 4) (h : ∀ x, x < 4 * n → mt M' (τ x) / 4 = mt M x / 4) {c d : Nat} (hc : c < n) (hcd : Conn M c d) : Conn M' c d := by
  refine (hcd (fun x => x < n ∧ Conn M' c x) ⟨hc, Conn.refl M' c⟩ ?_).2
  rintro x y ⟨hx, hxc⟩ ⟨s, hs, he⟩
  refine ⟨hm.adj_lt hx ⟨s, hs, he⟩, hxc.step ⟨τ (4 * x + s) % 4, Nat.mod_lt _ (by decide), ?_⟩⟩
  have h1 := hτ (4 * x + s) (by omega)
  have h2 := h (4 * x + s) (by omega)
  have h3 : 4 * x + τ (4 * x + s) % 4 = τ (4 * x + s) := by omega
  rw [h3]
  exact h2.trans he
theorem rep_self {c : Nat} : rep M c = c ↔ ∀ e, Conn M c e → c ≤ e := by
  constructor
  · intro h e he
    have := rep_le M he
    omega
  · intro h
    have h1 := rep_le M (Conn.refl M c)
    have h2 := h _ (rep_conn M c)
    omega
theorem ft_same (hm : Mates M n) (hm' : Mates M' n) (hs : Sph M n) (hs' : Sph M' n) (hi : Inj τ (4 * n)) (hτ : ∀ x, x < 4 * n → τ x / 4 = x / 4) (h : ∀ x, x < 4 * n → mt M' (τ x) = τ (mt M x)) (hb : ∀ x, x < 4 * n → mt M x < 4 * n) : FT M' n = FT M n := by
  have e1 := (sph_total hm).1 hs
  have e2 := (sph_total hm').1 hs'
  have h4 : ∀ x, x < 4 * n → mt M' (τ x) / 4 = mt M x / 4 := fun x hx => by rw [h x hx]; exact hτ _ (hb x hx)
  have hc : ∀ c, c < n → ∀ d, (Conn M c d ↔ Conn M' c d) := fun c hc d => by
    constructor
    · exact conn_ahead hm.ok hτ h4 hc
    · refine conn_ahead (τ := back τ (4 * n)) hm'.ok (fun x hx => ?_) (fun x hx => ?_) hc
      · have h1 := hτ _ (back_lt hi hx)
        rw [f_back hi hx] at h1
        exact h1.symm
      · have h1 := h4 _ (back_lt hi hx)
        rw [f_back hi hx] at h1
        exact h1.symm
  have : CT M' n = CT M n := by
    unfold CT
    refine cnt_congr fun c hcn => ?_
    rw [decide_eq_decide, rep_self, rep_self]
    exact ⟨fun g e he => g e ((hc c hcn e).1 he), fun g e he => g e ((hc c hcn e).2 he)⟩
  omega
end
/-- .. at a move of the slots at each crossing. -/
theorem ft_move {S S' M : List Int} {L : Int} {τ : Nat → Nat} (hv : vldB S M L = true) (hl : S'.length = S.length) (hv' : vldB S' (mvL τ M) L = true) (hi : Inj τ (4 * S.length)) (hτ : ∀ x, x < 4 * S.length → τ x / 4 = x / 4) : FT (mvL τ M) S'.length = FT M S.length := by
  have h1 := vldB_iff.1 hv
  have h2 := vldB_iff.1 hv'
  have m2 := h2.1.mates2
  have s2 := h2.2
  rw [hl] at m2 s2 ⊢
  refine ft_same h1.1.mates2 m2 h1.2 s2 hi hτ (fun x hx => ?_) (fun x hx => h1.1.mt_lt hx)
  have := nth_mvL h1.1.len hi x hx
  unfold mt at *
  omega
theorem ft_op {S M : List Int} {L : Int} (hv : vldB S M L = true) (kind q : Nat) (hk : kind < 4) : FT (mvL (opT S kind q) M) (mulS S (opG kind q)).length = FT M S.length := by
  refine ft_move hv (mulS_len _ _) (op_valid hv kind q) (opT_inj S kind q S.length) fun x hx => ?_
  rw [opT_slm (fun c hc => (vldB_shape hv).sign c hc) kind q x hx hk]
  exact slm_div (fun c s hs => sl_lt _ _ _ hs) x
theorem ft_rone {S M : List Int} {L : Int} (hv : vldB S M L = true) (i : Nat) : FT (mvL (trn (r1B S M i)) M) (mulS S (r1S S M i)).length = FT M S.length := by
  refine ft_move hv (mulS_len _ _) (r1_valid hv i) (r1_iso hv i).inj fun x _ => ?_
  unfold trn tn
  omega
/-- The faces' number. -/
theorem faces_len {S M : List Int} {L : Int} (hv : vldB S M L = true) : (cycs (fc M) (perOf (fc M) (4 * S.length)) (fun _ => true) (4 * S.length)).length = FT M S.length := by
  have hm := (vldB_shape hv).mates2
  rw [cycs_eq hm.inj (fun x hx => perOf_spec hm.inj x hx) _ (fun _ _ => rfl)]
  unfold clTo FT cnt
  rw [List.length_map, List.countP_eq_length_filter]
  simp
set_option maxRecDepth 100000 in
set_option maxHeartbeats 1000000 in
theorem faces1_any (w : World) (N : Nat) : BoolFn w 137 #[] N (fun _ => true) := by
  intro W x hW hx
  show Calls Try.prog 137 #[.int .i64 (x : Int)] W _
  go_enter Try.func137, Try.ntmps137
  go_wp2_with fail
  go_ret
  exact ⟨rfl, Below.refl _ _⟩
set_option maxRecDepth 100000 in
set_option maxHeartbeats 1000000 in
theorem faces2_any (S M : List Int) (L : Int) (aS aM : Option Addr) (cS cM : Nat) (w : World) (b : Nat) (hs : Shape S M L) (hM : IntsAt w aM M) (hbox : Row w b 24 [.slice aS S.length cS, .slice aM M.length cM, .int .i64 L]) :
    NatFn w 138 #[.pointer (some ⟨b, 0, none⟩)] (4 * S.length) (fc M) := by
  intro W x hW hx
  have hbx := (hbox.later hW hbox.lt).cell 1
  simp only [List.getElem?_cons_succ, List.getElem?_cons_zero] at hbx
  obtain ⟨b2, off, rfl, hbl, hc⟩ := (hM.later hW).open (by rw [hs.len]; omega)
  have hcx := hc x (by rw [hs.len]; exact hx)
  obtain ⟨hm0, hm1⟩ := hs.range x hx
  have hres : fc M x = tn (nth M x).toNat (-1) := rfl
  obtain ⟨m, hm⟩ := Int.eq_ofNat_of_zero_le hm0
  rw [hm, Int.toNat_natCast] at hres
  rw [hm] at hcx hm1
  have Hres := Lib.hid hres
  have hML : (x : Int) < (M.length : Int) := by rw [hs.len]; omega
  have hfw := hs.few
  clear hc hm hm0 hM hbox hW hres hs
  show Calls Try.prog 138 #[.int .i64 (x : Int), .pointer (some ⟨b, 0, none⟩)] W _
  go_enter Try.func138, Try.ntmps138
  go_wp2_with fail
  refine (turn_any m (-1) _ (by omega) (by omega) (by omega)).mono ?_
  rintro e w1 ⟨rfl, rfl⟩
  go_wp2_with fail
  go_ret
  rw [Hres.out]
  exact ⟨rfl, Below.refl _ _⟩
set_option maxRecDepth 100000 in
set_option maxHeartbeats 1000000 in
theorem faces_yes (S M : List Int) (L : Int) (aS aM : Option Addr) (cS cM : Nat) (w : World) (hv : vldB S M L = true) (hS : IntsAt w aS S) (hM : IntsAt w aM M) :
    Calls Try.prog 71 #[.agg #[.slice aS S.length cS, .slice aM M.length cM, .int .i64 L]] w fun e w' => ∃ a c, e = .returned (.slice a (FT M S.length) c) ∧ Below w.heap.size w w' := by
  have hB : Below w.heap.size w (w.alloc (.cells #[.slice aS S.length cS, .slice aM M.length cM, .int .i64 L] 24)) := (Below.refl _ _).alloc (Nat.le_refl _) _
  have hs := vldB_shape hv
  have hfw := hs.few
  have HV := Lib.hid (valid_any S M L aS aM cS cM (w.alloc (.cells #[.slice aS S.length cS, .slice aM M.length cM, .int .i64 L] 24)) (by omega) (by rw [hs.len]; omega) (hS.later hB) (hM.later hB))
  have Hbox := Lib.hid (Row.new w #[.slice aS S.length cS, .slice aM M.length cM, .int .i64 L] 24)
  have Hsl := Lib.hid (faces_len hv)
  have hi := hs.mates2.inj
  rw [hv] at HV
  have Hi := Lib.hid hi
  have Hs := Lib.hid hs
  have HM := Lib.hid hM
  have HB := Lib.hid hB
  clear hv hs hS hM hB hi
  go_enter Try.func71, Try.ntmps71
  go_wp2_with fail
  refine HV.out.mono ?_
  rintro e w1 ⟨rfl, hb1⟩
  have Hb1 := Lib.hid (below_of HB.out hb1 (by simp))
  have Hbox1 := Lib.hid (Hbox.out.later hb1 (by simp))
  have hc1 := Hbox1.out.cell 1
  simp only [List.getElem?_cons_succ, List.getElem?_cons_zero] at hc1
  clear hb1
  go_wp2_with fail
  rw [Hs.out.len]
  refine (cycles_any 138 137 #[.pointer (some ⟨w.heap.size, 0, none⟩)] #[] (4 * S.length) (fc M) (perOf (fc M) (4 * S.length)) (fun _ => true) w1 (by omega) Try.call138 Try.call137
    (faces2_any S M L aS aM cS cM w1 _ Hs.out (HM.out.later Hb1.out) Hbox1.out) (faces1_any w1 _) Hi.out.lt (fun x hx => perOf_spec Hi.out x hx) (fun x hx => Nat.le_trans (perOf_le _ _ _ (by omega)) (by omega))).mono ?_
  rintro e w2 ⟨A, c, rfl, hb2, hR⟩
  have Hb2 := Lib.hid (below_step Hb1.out hb2)
  clear hb2 hR
  go_wp2_with fail
  go_ret
  rw [Hsl.out]
  exact ⟨A, c, rfl, Hb2.out⟩
end Go.Proofs.Ytkopbcehfbmnmaa
