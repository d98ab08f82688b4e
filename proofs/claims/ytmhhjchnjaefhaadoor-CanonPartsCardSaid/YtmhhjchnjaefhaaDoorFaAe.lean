/- The walk of diagram.Valid. The walks of diagram.Strands and Components. -/
import Derived.WalkKit
import Derived.WalkSpells
import Derived.WalkLawsBesides
import Derived.Deep.AppendSrc
import Derived.Deep.LoopGhost
import Derived.Deep.QuietTactic
import Derived.Deep.RegionWith
import Derived.Deep.DeepMust
import Derived.Deep.DeepFit
import Derived.BigQuiet
import Derived.Lib.Hide
import Derived.Outline
import Derived.Test.YtmhhjchnjaefhaaDoorProg
import Derived.Test.YtmhhjchnjaefhaaDoorFaAa
import Derived.Test.YtmhhjchnjaefhaaDoorFaAc
import Derived.Test.YtmhhjchnjaefhaaDoorFaAd
namespace Go.Proofs.YtmhhjchnjaefhaaDoor
open Go Go.RowKit
theorem sphB_eq {M : List Int} {n : Nat} {part : List Int} {parts : Nat} (h : lbOuter M 1000000 n 0 (List.replicate n (-1), 0) = some (part, (parts : Int))) : sphB M n = sphL M n part parts := by
  unfold sphB; rw [h]; simp
set_option maxRecDepth 100000 in
set_option maxHeartbeats 4000000 in
theorem valid_any (S M : List Int) (L : Int) (aS aM : Option Addr) (cS cM : Nat) (w : World) (hSl : S.length ≤ 1000000000) (hMl : M.length ≤ 1000000000) (hS : IntsAt w aS S) (hM : IntsAt w aM M) :
    Calls Tryd.prog 18 #[.agg #[.slice aS S.length cS, .slice aM M.length cM, .int .i64 L]] w fun e w' => e = .returned (.bool (vldB S M L)) ∧ Below w.heap.size w w' := by
  have hB : ∀ o, Below w.heap.size w (w.alloc o) := fun o => (Below.refl _ _).alloc (Nat.le_refl _) o
  by_cases h1 : 64 < S.length
  · have hv : vldB S M L = false := vldB_no fun h => by have := h.few; omega
    have d1 : decide ((64 : Int) < (S.length : Int)) = true := decide_eq_true (by omega)
    rw [hv]
    clear hv h1 hS hM
    go_enter Tryd.func18, Tryd.ntmps18
    go_wp2_with fail
    go_ret
    exact ⟨rfl, hB _⟩
  have d1 : decide ((64 : Int) < (S.length : Int)) = false := decide_eq_false (by omega)
  by_cases h2 : M.length ≠ 4 * S.length
  · have hv : vldB S M L = false := vldB_no fun h => h2 h.len
    have d2 : ((M.length : Int) != 4 * (S.length : Int)) = true := by rw [bne_iff_ne]; omega
    rw [hv]
    clear hv h1 h2 hS hM
    go_enter Tryd.func18, Tryd.ntmps18
    go_wp2_with fail
    go_ret
    exact ⟨rfl, hB _⟩
  have h2' : M.length = 4 * S.length := by omega
  have d2 : ((M.length : Int) != 4 * (S.length : Int)) = false := by rw [h2']; simp
  by_cases h3 : L < 0
  · have hv : vldB S M L = false := vldB_no fun h => by have := h.lo; omega
    have d3 : decide (L < 0) = true := decide_eq_true h3
    rw [hv]
    clear hv h1 h2 h2' h3 hS hM
    go_enter Tryd.func18, Tryd.ntmps18
    go_wp2_with fail
    go_ret
    exact ⟨rfl, hB _⟩
  have d3 : decide (L < 0) = false := decide_eq_false h3
  by_cases h4 : 64 < L
  · have hv : vldB S M L = false := vldB_no fun h => by have := h.hi; omega
    have d4 : decide ((64 : Int) < L) = true := decide_eq_true h4
    rw [hv]
    clear hv h1 h2 h2' h3 h4 hS hM
    go_enter Tryd.func18, Tryd.ntmps18
    go_wp2_with fail
    go_ret
    exact ⟨rfl, hB _⟩
  have d4 : decide ((64 : Int) < L) = false := decide_eq_false h4
  have Hno := Lib.hid (fun (h : ¬ Shape S M L) => vldB_no h)
  have H2 := Lib.hid h2'
  have HS := Lib.hid hS
  have HM := Lib.hid hM
  have hn : S.length ≤ 64 := by omega
  have hl3 : 0 ≤ L := by omega
  have hl4 : L ≤ 64 := by omega
  clear h1 h2 h2' hS hM h3 h4
  go_enter Tryd.func18, Tryd.ntmps18
  go_wp2_with fail
  go_loopg [34] S.length (fun g i wr => ∃ k : Nat, k ≤ S.length ∧ g = S.length - k ∧ i = .int .i64 k ∧ wr = w.alloc (.cells #[.slice aS S.length cS, .slice aM M.length cM, .int .i64 L] 24) ∧ signsTo S k)
  case atStart => exact ⟨0, Nat.zero_le _, rfl, rfl, rfl, fun c hc => by omega⟩
  case round =>
    obtain ⟨k, hk, rfl, rfl, rfl, hsg⟩ := hrel
    have Hsg := Lib.hid hsg; clear hsg
    by_cases hlt : k < S.length
    · obtain ⟨b, off, rfl, hbl, hc⟩ := HS.out.open (by omega)
      have hck := hc k hlt
      rw [← (hB (.cells #[.slice (some ⟨b, off, none⟩) S.length cS, .slice aM M.length cM, .int .i64 L] 24)).cell (p := ⟨b, off + k, none⟩) hbl] at hck
      clear hc
      by_cases h1 : nth S k = 1
      · have t1 : (nth S k != 1) = false := by rw [h1]; rfl
        have H1 := Lib.hid h1; clear h1
        go_wp2_with fail
        go_roundg (S.length - (k + 1))
        case measure => omega
        case rel =>
          refine ⟨k + 1, by omega, rfl, by go_num, rfl, fun c hc => ?_⟩
          rcases Nat.lt_or_ge c k with h | h
          · exact Hsg.out c h
          · obtain rfl : c = k := by omega
            exact .inl H1.out
      · have t1 : (nth S k != 1) = true := by simpa using h1
        by_cases h2 : nth S k = -1
        · have t2 : (nth S k != -1) = false := by rw [h2]; rfl
          have H1 := Lib.hid h2; clear h1 h2
          go_wp2_with fail
          go_roundg (S.length - (k + 1))
          case measure => omega
          case rel =>
            refine ⟨k + 1, by omega, rfl, by go_num, rfl, fun c hc => ?_⟩
            rcases Nat.lt_or_ge c k with h | h
            · exact Hsg.out c h
            · obtain rfl : c = k := by omega
              exact .inr H1.out
        · have t2 : (nth S k != -1) = true := by simpa using h2
          have Hv : Hid (vldB S M L = false) := Lib.hid (Hno.out fun h => (h.sign k hlt).elim h1 h2)
          clear h1 h2
          go_wp2_with fail
          go_ret
          rw [Hv.out]
          exact ⟨rfl, hB _⟩
    · obtain rfl : k = S.length := by omega
      go_wp2_with fail
      have Hbox := Lib.hid (Row.new w #[.slice aS S.length cS, .slice aM M.length cM, .int .i64 L] 24)
      have hM1 : M.length ≤ 4 * S.length := by rw [H2.out]; omega
      have hM2 : 4 * S.length ≤ M.length := by rw [H2.out]; omega
      go_loopg [48] (4 * S.length) (fun g i wr => ∃ h : Nat, h ≤ 4 * S.length ∧ g = 4 * S.length - h ∧ i = .int .i64 h ∧ Below w.heap.size w wr ∧ Row wr w.heap.size 24 [.slice aS S.length cS, .slice aM M.length cM, .int .i64 L] ∧ matesTo S M S.length h)
      case atStart => exact ⟨0, Nat.zero_le _, rfl, rfl, hB _, Hbox.out, fun c hc => by omega⟩
      case round =>
        clear Hbox
        obtain ⟨h, hh, rfl, rfl, hb, hbox, hmt⟩ := hrel
        have Hmt := Lib.hid hmt; clear hmt
        have hz := hbox.lt
        by_cases hlt : h < 4 * S.length
        · obtain ⟨b, off, rfl, hbl, hc⟩ := HM.out.open (by rw [H2.out]; omega)
          have hch := hc h (by rw [H2.out]; exact hlt)
          rw [← hb.cell (p := ⟨b, off + h, none⟩) hbl] at hch
          have hbx := hbox.cell 1
          simp only [List.getElem?_cons_succ, List.getElem?_cons_zero] at hbx
          have hno : ¬ mateOk S M S.length h → vldB S M L = false := fun hn => Hno.out fun hs => hn (hs.mate h hlt)
          have Hno2 := Lib.hid hno; clear hno
          have Hbox := Lib.hid hbox; clear hbox
          have hdec : decide (h < M.length) = true := decide_eq_true (by omega)
          by_cases h1 : nth M h < 0
          · have t1 : decide (nth M h < 0) = true := decide_eq_true h1
            have Hv : Hid (vldB S M L = false) := Lib.hid (Hno2.out fun hs => by have := hs.1; omega)
            clear hc
            go_wp2_with fail
            go_ret
            rw [Hv.out]
            exact ⟨rfl, hb⟩
          have t1 : decide (nth M h < 0) = false := decide_eq_false h1
          by_cases h2 : 4 * (S.length : Int) ≤ nth M h
          · have t2 : decide (4 * (S.length : Int) ≤ nth M h) = true := decide_eq_true h2
            have Hv : Hid (vldB S M L = false) := Lib.hid (Hno2.out fun hs => by have := hs.2.1; omega)
            clear hc h1
            go_wp2_with fail
            go_ret
            rw [Hv.out]
            exact ⟨rfl, hb⟩
          have t2 : decide (4 * (S.length : Int) ≤ nth M h) = false := decide_eq_false h2
          by_cases h3 : nth M h = (h : Int)
          · have t3 : (nth M h == (h : Int)) = true := by simpa using h3
            have Hv : Hid (vldB S M L = false) := Lib.hid (Hno2.out fun hs => hs.2.2.1 h3)
            clear hc h1 h2 h3
            go_wp2_with fail
            go_ret
            rw [Hv.out]
            exact ⟨rfl, hb⟩
          have t3 : (nth M h == (h : Int)) = false := by simpa using h3
          obtain ⟨m, hm⟩ := Int.eq_ofNat_of_zero_le (show 0 ≤ nth M h by omega)
          have hm1 : m < 4 * S.length := by omega
          have hcm := hc m (by rw [H2.out]; exact hm1)
          rw [← hb.cell (p := ⟨b, off + m, none⟩) hbl] at hcm
          have Hok : Hid (mateOk S M S.length h ↔ nth M m = (h : Int) ∧ outB S h ≠ outB S m) := Lib.hid (by
            unfold mateOk
            rw [hm, Int.toNat_natCast]
            exact ⟨fun hs => hs.2.2.2, fun hs => ⟨by omega, by omega, by rw [← hm]; exact h3, hs⟩⟩)
          rw [hm] at hch t1 t2 t3
          clear hc h1 h2 h3 hm
          by_cases h4 : nth M m ≠ (h : Int)
          · have t4 : (nth M m != (h : Int)) = true := by simpa using h4
            have Hv : Hid (vldB S M L = false) := Lib.hid (Hno2.out fun hs => h4 (Hok.out.1 hs).1)
            clear h4
            go_wp2_with fail
            go_ret
            rw [Hv.out]
            exact ⟨rfl, hb⟩
          have h4' : nth M m = (h : Int) := by omega
          have t4 : (nth M m != (h : Int)) = false := by simpa using h4'
          have H4 := Lib.hid h4'; clear h4 h4'
          have HbxC : Hid (∀ W, Below wr.heap.size wr W → Row W w.heap.size 24 [.slice aS S.length cS, .slice (some ⟨b, off, none⟩) M.length cM, .int .i64 L]) := Lib.hid fun W hW => Hbox.out.later hW hz
          have HcO : Hid (∀ (x : Nat), x < 4 * S.length → ∀ W, Below wr.heap.size wr W → Calls Tryd.prog 48 #[.agg #[.slice aS S.length cS, .slice (some ⟨b, off, none⟩) M.length cM, .int .i64 L], .int .i64 (x : Int)] W (fun e w' => e = .returned (.bool (outB S x)) ∧ Below wr.heap.size wr w')) :=
            Lib.hid fun x hx W hW => (outgoing_any S M L aS (some ⟨b, off, none⟩) cS cM x W hx (by omega) (HS.out.later (below_step hb hW))).mono fun e w' ⟨he, hb'⟩ => ⟨he, below_step hW hb'⟩
          go_wp2_with fail
          refine wp_region_class (fun W => Below wr.heap.size wr W) (by kernel_rfl) (by kernel_rfl) ((Below.refl _ _).drew) ?_
          refine wpQuiet_loadRow (.tmp 1) 24 w.heap.size 24 [.slice aS S.length cS, .slice (some ⟨b, off, none⟩) M.length cM, .int .i64 L] rfl rfl rfl Tryd.isAgg24 Tryd.sizeOf24 HbxC.out ?_
          simp only [Act.put, List.setIfInBounds_toArray, List.set_cons_succ, List.set_cons_zero]
          refine wpQuiet_move (.tmp 6) (.int .i64 (h : Int)) rfl rfl rfl ?_
          simp only [Act.put, List.setIfInBounds_toArray, List.set_cons_succ, List.set_cons_zero]
          refine wpQuiet_call (.bool (outB S h)) 48 _ _ [.agg #[.slice aS S.length cS, .slice (some ⟨b, off, none⟩) M.length cM, .int .i64 L], .int .i64 (h : Int)] rfl rfl rfl Tryd.call48 (HcO.out h hlt) ?_
          simp only [Act.put, List.setIfInBounds_toArray, List.set_cons_succ, List.set_cons_zero]
          refine wpQuiet_loadRow (.tmp 1) 24 w.heap.size 24 [.slice aS S.length cS, .slice (some ⟨b, off, none⟩) M.length cM, .int .i64 L] rfl rfl rfl Tryd.isAgg24 Tryd.sizeOf24 HbxC.out ?_
          simp only [Act.put, List.setIfInBounds_toArray, List.set_cons_succ, List.set_cons_zero]
          refine wpQuiet_move (.tmp 7) (.int .i64 (m : Int)) rfl rfl rfl ?_
          simp only [Act.put, List.setIfInBounds_toArray, List.set_cons_succ, List.set_cons_zero]
          refine wpQuiet_call (.bool (outB S m)) 48 _ _ [.agg #[.slice aS S.length cS, .slice (some ⟨b, off, none⟩) M.length cM, .int .i64 L], .int .i64 (m : Int)] rfl rfl rfl Tryd.call48 (HcO.out m hm1) ?_
          simp only [Act.put, List.setIfInBounds_toArray, List.set_cons_succ, List.set_cons_zero]
          refine wpQuiet_val (.bool (outB S h == outB S m)) rfl (fun W _ => ?_) ?_
          · go_simp
          refine wpQuiet_end ?_
          intro w2 hw2
          simp only [Act.put, List.setIfInBounds_toArray, List.set_cons_succ, List.set_cons_zero]
          by_cases h5 : outB S h = outB S m
          · have t5 : (outB S h == outB S m) = true := by simpa using h5
            have Hv : Hid (vldB S M L = false) := Lib.hid (Hno2.out fun hs => (Hok.out.1 hs).2 h5)
            have Hb2 := Lib.hid (below_step hb hw2)
            rw [t5]
            clear h5 t5
            go_wp2_with fail
            go_ret
            rw [Hv.out]
            exact ⟨rfl, Hb2.out⟩
          · have t5 : (outB S h == outB S m) = false := by simpa using h5
            have Hv : Hid (mateOk S M S.length h) := Lib.hid (Hok.out.2 ⟨H4.out, h5⟩)
            have Hb2 := Lib.hid (below_step hb hw2)
            have Hbox2 := Lib.hid (Hbox.out.later hw2 hz)
            rw [t5]
            clear h5 t5
            go_wp2_with fail
            go_roundg (4 * S.length - (h + 1))
            case measure => omega
            case rel =>
              refine ⟨h + 1, by omega, rfl, by go_num, Hb2.out, Hbox2.out, fun c hc => ?_⟩
              rcases Nat.lt_or_ge c h with hc1 | hc1
              · exact Hmt.out c hc1
              · obtain rfl : c = h := by omega
                exact Hv.out
        · obtain rfl : h = 4 * S.length := by omega
          have hshape : Shape S M L := ⟨by omega, H2.out, hl3, hl4, Hsg.out, Hmt.out⟩
          obtain ⟨part, parts, hlab, hL⟩ := label_spec hshape.mates (by omega)
          have Hv : Hid (vldB S M L = sphL M S.length part parts) := Lib.hid (by rw [vldB_yes hshape, sphB_eq hlab])
          have Hlab := Lib.hid hlab
          have HL := Lib.hid hL
          have Hsh := Lib.hid hshape
          have Hbox := Lib.hid hbox
          have hc0 := hbox.cell 0
          have hc1 := hbox.cell 1
          have hc2 := hbox.cell 2
          simp only [List.getElem?_cons_succ, List.getElem?_cons_zero] at hc0 hc1 hc2
          clear hlab hL hshape hbox
          go_wp2_with fail
          refine (spherical_any S M L aS aM cS cM _ part parts (by omega) H2.out (HM.out.later hb) Hsh.out.range Hsh.out.injF Hlab.out HL.out.len HL.out.range HL.out.le).mono ?_
          rintro e w2 ⟨rfl, hb2⟩
          have Hb2 := Lib.hid (below_step hb hb2)
          clear hb2 hb
          go_wp2_with fail
          go_ret
          rw [Hv.out]
          exact ⟨rfl, Hb2.out⟩
end Go.Proofs.YtmhhjchnjaefhaaDoor


namespace Go.Proofs.YtmhhjchnjaefhaaDoor
open Go Go.RowKit
/-- The half-edge behind h along its strand. -/
def sc (M : List Int) (h : Nat) : Nat := tn (nth M h).toNat 2
theorem Shape.injS {S M : List Int} {L : Int} (hs : Shape S M L) : Inj (sc M) (4 * S.length) := by
  refine ⟨fun x hx => tn_lt _ _ _ (hs.toNat_lt x hx), fun x y hx hy he => ?_⟩
  have h1 : (nth M x).toNat = (nth M y).toNat := by
    unfold sc tn at he
    omega
  have h2 := hs.invol x hx
  have h3 := hs.invol y hy
  rw [h1] at h2
  omega
/-- diagram.Strands' answer. -/
def strandsL (S M : List Int) (L : Int) : List (List Nat) := if vldB S M L = true then cycs (sc M) (perOf (sc M) (4 * S.length)) (outB S) (4 * S.length) else []
theorem vldB_shape {S M : List Int} {L : Int} (h : vldB S M L = true) : Shape S M L := by
  unfold vldB at h
  rw [Bool.and_eq_true, shapeB_iff] at h
  exact h.1
end Go.Proofs.YtmhhjchnjaefhaaDoor


