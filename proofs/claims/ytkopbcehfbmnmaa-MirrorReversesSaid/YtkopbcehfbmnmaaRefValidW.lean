/- The walk of the reference's Valid. -/
import Derived.Test.YtkopbcehfbmnmaaPlainA
import Derived.Test.YtkopbcehfbmnmaaRefLabelW
import Derived.Test.YtkopbcehfbmnmaaRefA
namespace Go.Proofs.Ytkopbcehfbmnmaa
open Go Go.RowKit
theorem rvTo_succ (lab : List Int) (c k : Nat) : rvTo lab c (k + 1) = if nth lab k = (c : Int) then rvTo lab c k + 1 else rvTo lab c k := by
  unfold rvTo
  rw [List.range_succ, List.countP_append]
  by_cases h : nth lab k = (c : Int) <;> simp [h]
theorem rvTo_le (lab : List Int) (c k : Nat) : rvTo lab c k ≤ k := by
  unfold rvTo
  have := List.countP_le_length (p := fun d => decide (nth lab d = (c : Int))) (l := List.range k)
  simpa using this
theorem rfTo_le (lab : List Int) (c : Nat) (ls : List (List Nat)) : rfTo lab c ls ≤ ls.length := List.countP_le_length
theorem rfTo_take (lab : List Int) (c : Nat) (ls : List (List Nat)) (k : Nat) (l : List Nat) (hk : ls[k]? = some l) : rfTo lab c (ls.take (k + 1)) = if nth lab (l.headD 0 / 4) = (c : Int) then rfTo lab c (ls.take k) + 1 else rfTo lab c (ls.take k) := by
  unfold rfTo
  rw [List.take_add_one, List.countP_append, hk]
  by_cases h : nth lab (l.headD 0 / 4) = (c : Int)
  · rw [if_pos h, Option.toList_some, List.countP_singleton, decide_eq_true h]; rfl
  · rw [if_neg h, Option.toList_some, List.countP_singleton, decide_eq_false h]; rfl
theorem clTo_head {f per : Nat → Nat} {wb : Nat → Bool} {N : Nat} (hp : ∀ x, x < N → 0 < per x) {i : Nat} {l : List Nat} (h : (clTo f per wb N)[i]? = some l) : 0 < l.length ∧ l.headD 0 < N ∧ nth (nats l) 0 = ((l.headD 0 : Nat) : Int) := by
  have hm := List.mem_of_getElem? h
  unfold clTo at hm
  simp only [List.mem_map, List.mem_filter, List.mem_range] at hm
  obtain ⟨x, ⟨hx, _⟩, rfl⟩ := hm
  have hpx := hp x hx
  have hl : 0 < (orb f x (per x)).length := by rw [orb_length]; exact hpx
  have hh : (orb f x (per x)).headD 0 = x := by
    obtain ⟨p, hp'⟩ : ∃ p, per x = p + 1 := ⟨per x - 1, by omega⟩
    rw [hp']; unfold orb; rw [List.range_succ_eq_map]; rfl
  refine ⟨hl, by rw [hh]; exact hx, ?_⟩
  rw [hh, nth_nats _ _ hl, orb_getD _ _ _ _ hpx]; rfl
set_option maxRecDepth 100000 in
set_option maxHeartbeats 8000000 in
theorem rvalid_any (S M : List Int) (L : Int) (aS aM : Option Addr) (cS cM : Nat) (w : World) (hSl : S.length ≤ 1000000000) (hMl : M.length ≤ 1000000000) (hS : IntsAt w aS S) (hM : IntsAt w aM M) :
    Calls Try.prog 32 #[.agg #[.slice aS S.length cS, .slice aM M.length cM, .int .i64 L]] w fun e w' => e = .returned (.bool (vldB S M L)) ∧ Below w.heap.size w w' := by
  have hB : ∀ o, Below w.heap.size w (w.alloc o) := fun o => (Below.refl _ _).alloc (Nat.le_refl _) o
  by_cases h1 : 64 < S.length
  · have hv : vldB S M L = false := vldB_no fun h => by have := h.few; omega
    have d1 : decide ((64 : Int) < (S.length : Int)) = true := decide_eq_true (by omega)
    rw [hv]
    clear hv h1 hS hM
    go_enter Try.func32, Try.ntmps32
    go_wp2_with fail
    go_ret
    exact ⟨rfl, hB _⟩
  have d1 : decide ((64 : Int) < (S.length : Int)) = false := decide_eq_false (by omega)
  by_cases h2 : M.length ≠ 4 * S.length
  · have hv : vldB S M L = false := vldB_no fun h => h2 h.len
    have d2 : ((M.length : Int) != 4 * (S.length : Int)) = true := by rw [bne_iff_ne]; omega
    rw [hv]
    clear hv h1 h2 hS hM
    go_enter Try.func32, Try.ntmps32
    go_wp2_with fail
    go_ret
    exact ⟨rfl, hB _⟩
  have h2' : M.length = 4 * S.length := by omega
  have d2 : ((M.length : Int) != 4 * (S.length : Int)) = false := by rw [h2']; simp
  by_cases h3 : L < 0
  · have hv : vldB S M L = false := vldB_no fun h => by have := h.lo; omega
    have d3 : decide (L < 0) = true := decide_eq_true h3
    rw [hv]
    clear hv h1 h2 h2' h3 hS hM
    go_enter Try.func32, Try.ntmps32
    go_wp2_with fail
    go_ret
    exact ⟨rfl, hB _⟩
  have d3 : decide (L < 0) = false := decide_eq_false h3
  by_cases h4 : 64 < L
  · have hv : vldB S M L = false := vldB_no fun h => by have := h.hi; omega
    have d4 : decide ((64 : Int) < L) = true := decide_eq_true h4
    rw [hv]
    clear hv h1 h2 h2' h3 h4 hS hM
    go_enter Try.func32, Try.ntmps32
    go_wp2_with fail
    go_ret
    exact ⟨rfl, hB _⟩
  have d4 : decide ((64 : Int) < L) = false := decide_eq_false h4
  have Hno := Lib.hid (fun (h : ¬ Shape S M L) => vldB_no h)
  have H2 := Lib.hid h2'
  have HS := Lib.hid hS
  have HM := Lib.hid hM
  have hn : S.length ≤ 64 := by omega
  have hl3 : 0 ≤ L := by omega
  have hl4 : L ≤ 64 := by omega
  clear h1 h2 h2' hS hM h3 h4
  go_enter Try.func32, Try.ntmps32
  go_wp2_with fail
  go_loopg [4] S.length (fun g i wr => ∃ k : Nat, k ≤ S.length ∧ g = S.length - k ∧ i = .int .i64 k ∧ wr = w.alloc (.cells #[.slice aS S.length cS, .slice aM M.length cM, .int .i64 L] 24) ∧ signsTo S k)
  case atStart => exact ⟨0, Nat.zero_le _, rfl, rfl, rfl, fun c hc => by omega⟩
  case round =>
    obtain ⟨k, hk, rfl, rfl, rfl, hsg⟩ := hrel
    have Hsg := Lib.hid hsg; clear hsg
    by_cases hlt : k < S.length
    · obtain ⟨b, off, rfl, hbl, hc⟩ := HS.out.open (by omega)
      have hck := hc k hlt
      rw [← (hB (.cells #[.slice (some ⟨b, off, none⟩) S.length cS, .slice aM M.length cM, .int .i64 L] 24)).cell (p := ⟨b, off + k, none⟩) hbl] at hck
      clear hc
      by_cases h1 : nth S k = 1
      · have t1 : (nth S k != 1) = false := by rw [h1]; rfl
        have H1 := Lib.hid h1; clear h1
        go_wp2_with fail
        go_roundg (S.length - (k + 1))
        case measure => omega
        case rel =>
          refine ⟨k + 1, by omega, rfl, by go_num, rfl, fun c hc => ?_⟩
          rcases Nat.lt_or_ge c k with h | h
          · exact Hsg.out c h
          · obtain rfl : c = k := by omega
            exact .inl H1.out
      · have t1 : (nth S k != 1) = true := by simpa using h1
        by_cases h2 : nth S k = -1
        · have t2 : (nth S k != -1) = false := by rw [h2]; rfl
          have H1 := Lib.hid h2; clear h1 h2
          go_wp2_with fail
          go_roundg (S.length - (k + 1))
          case measure => omega
          case rel =>
            refine ⟨k + 1, by omega, rfl, by go_num, rfl, fun c hc => ?_⟩
            rcases Nat.lt_or_ge c k with h | h
            · exact Hsg.out c h
            · obtain rfl : c = k := by omega
              exact .inr H1.out
        · have t2 : (nth S k != -1) = true := by simpa using h2
          have Hv : Hid (vldB S M L = false) := Lib.hid (Hno.out fun h => (h.sign k hlt).elim h1 h2)
          clear h1 h2
          go_wp2_with fail
          go_ret
          rw [Hv.out]
          exact ⟨rfl, hB _⟩
    · obtain rfl : k = S.length := by omega
      go_wp2_with fail
      have Hbox := Lib.hid (Row.new w #[.slice aS S.length cS, .slice aM M.length cM, .int .i64 L] 24)
      have hM1 : M.length ≤ 4 * S.length := by rw [H2.out]; omega
      have hM2 : 4 * S.length ≤ M.length := by rw [H2.out]; omega
      go_loopg [5] (4 * S.length) (fun g i wr => ∃ h : Nat, h ≤ 4 * S.length ∧ g = 4 * S.length - h ∧ i = .int .i64 h ∧ Below w.heap.size w wr ∧ Row wr w.heap.size 24 [.slice aS S.length cS, .slice aM M.length cM, .int .i64 L] ∧ matesTo S M S.length h)
      case atStart => exact ⟨0, Nat.zero_le _, rfl, rfl, hB _, Hbox.out, fun c hc => by omega⟩
      case round =>
        clear Hbox
        obtain ⟨h, hh, rfl, rfl, hb, hbox, hmt⟩ := hrel
        have Hmt := Lib.hid hmt; clear hmt
        have hz := hbox.lt
        have hc0 := hbox.cell 0
        have hc1 := hbox.cell 1
        have hc2 := hbox.cell 2
        simp only [List.getElem?_cons_succ, List.getElem?_cons_zero] at hc0 hc1 hc2
        have Hbox := Lib.hid hbox; clear hbox
        have Hbd : Hid (∀ N, Below w.heap.size w (wr.drewN N)) := Lib.hid fun N => below_drewNN hb N
        by_cases hlt : h < 4 * S.length
        · obtain ⟨b, off, rfl, hbl, hc⟩ := HM.out.open (by rw [H2.out]; omega)
          have hch := hc h (by rw [H2.out]; exact hlt)
          rw [← hb.cell (p := ⟨b, off + h, none⟩) hbl] at hch
          have hno : ¬ mateOk S M S.length h → vldB S M L = false := fun hn => Hno.out fun hs => hn (hs.mate h hlt)
          have Hno2 := Lib.hid hno; clear hno
          by_cases h1 : nth M h < 0
          · have t1 : decide (nth M h < 0) = true := decide_eq_true h1
            have Hv : Hid (vldB S M L = false) := Lib.hid (Hno2.out fun hs => by have := hs.1; omega)
            clear hc h1
            go_wp2_with fail
            go_quiet (fail)
            go_wp2_with fail
            go_ret
            rw [Hv.out]
            exact ⟨rfl, Hbd.out _⟩
          have t1 : decide (nth M h < 0) = false := decide_eq_false h1
          by_cases h2 : 4 * (S.length : Int) ≤ nth M h
          · have t2 : decide (4 * (S.length : Int) ≤ nth M h) = true := decide_eq_true h2
            have Hv : Hid (vldB S M L = false) := Lib.hid (Hno2.out fun hs => by have := hs.2.1; omega)
            clear hc h1 h2
            go_wp2_with fail
            go_quiet (fail)
            go_wp2_with fail
            go_ret
            rw [Hv.out]
            exact ⟨rfl, Hbd.out _⟩
          have t2 : decide (4 * (S.length : Int) ≤ nth M h) = false := decide_eq_false h2
          by_cases h3 : nth M h = (h : Int)
          · have t3 : (nth M h == (h : Int)) = true := by simpa using h3
            have Hv : Hid (vldB S M L = false) := Lib.hid (Hno2.out fun hs => hs.2.2.1 h3)
            clear hc h1 h2 h3
            go_wp2_with fail
            go_quiet (fail)
            go_wp2_with fail
            go_ret
            rw [Hv.out]
            exact ⟨rfl, Hbd.out _⟩
          have t3 : (nth M h == (h : Int)) = false := by simpa using h3
          obtain ⟨m, hm⟩ := Int.eq_ofNat_of_zero_le (show 0 ≤ nth M h by omega)
          have hm1 : m < 4 * S.length := by omega
          have hcm := hc m (by rw [H2.out]; exact hm1)
          rw [← hb.cell (p := ⟨b, off + m, none⟩) hbl] at hcm
          have Hok : Hid (mateOk S M S.length h ↔ nth M m = (h : Int) ∧ outB S h ≠ outB S m) := Lib.hid (by
            unfold mateOk
            rw [hm, Int.toNat_natCast]
            exact ⟨fun hs => hs.2.2.2, fun hs => ⟨by omega, by omega, by rw [← hm]; exact h3, hs⟩⟩)
          rw [hm] at hch t1 t2 t3
          clear hc h1 h2 h3 hm
          have hmM : m < M.length := by omega
          by_cases h4 : nth M m ≠ (h : Int)
          · have t4 : (nth M m != (h : Int)) = true := by simpa using h4
            have Hv : Hid (vldB S M L = false) := Lib.hid (Hno2.out fun hs => h4 (Hok.out.1 hs).1)
            clear h4
            go_wp2_with fail
            go_quiet (fail)
            go_wp2_with fail
            go_ret
            rw [Hv.out]
            exact ⟨rfl, Hbd.out _⟩
          have h4' : nth M m = (h : Int) := by omega
          have t4 : (nth M m != (h : Int)) = false := by simpa using h4'
          have H4 := Lib.hid h4'; clear h4 h4'
          have HcO : Hid (∀ (x N : Nat), x < 4 * S.length → Calls Try.prog 100 #[.slice aS S.length cS, .int .i64 (x : Int)] (wr.drewN N) (fun e w' => e = .returned (.bool (outB S x)) ∧ w' = wr.drewN N)) :=
            Lib.hid fun x N hx => (rout_any S aS cS x (wr.drewN N) hx (by omega) (HS.out.later (Hbd.out N))).mono fun e w' ⟨he, hb'⟩ => ⟨he, hb'.symm⟩
          by_cases h5 : outB S h = outB S m
          · have Hv : Hid (vldB S M L = false) := Lib.hid (Hno2.out fun hs => (Hok.out.1 hs).2 h5)
            have t5 : (outB S h == outB S m) = true := by simpa using h5
            clear h5
            go_wp2_with fail
            go_quiet ((go_at_call 100; first | with_reducible exact Calls.quiet_of_same (HcO.out h _ hlt) | with_reducible exact Calls.quiet_of_same (HcO.out m _ hm1)))
            go_wp2_with fail
            go_ret
            rw [Hv.out]
            exact ⟨rfl, Hbd.out _⟩
          · have Hv : Hid (mateOk S M S.length h) := Lib.hid (Hok.out.2 ⟨H4.out, h5⟩)
            have t5 : (outB S h == outB S m) = false := by simpa using h5
            clear h5
            go_wp2_with fail
            go_quiet ((go_at_call 100; first | with_reducible exact Calls.quiet_of_same (HcO.out h _ hlt) | with_reducible exact Calls.quiet_of_same (HcO.out m _ hm1)))
            go_wp2_with fail
            go_roundg (4 * S.length - (h + 1))
            case measure => omega
            case rel =>
              refine ⟨h + 1, by omega, rfl, by go_num, Hbd.out _, Hbox.out, fun c hc => ?_⟩
              rcases Nat.lt_or_ge c h with hc1 | hc1
              · exact Hmt.out c hc1
              · obtain rfl : c = h := by omega
                exact Hv.out
        · obtain rfl : h = 4 * S.length := by omega
          have hshape : Shape S M L := ⟨by omega, H2.out, hl3, hl4, Hsg.out, Hmt.out⟩
          have Hmok := Lib.hid hshape.mates
          have Hv : Hid (vldB S M L = true ↔ ∀ c, c < S.length → rsOk (rlabel M S.length) S.length (clTo (fb M (-1)) (perOf (fb M (-1)) (4 * S.length)) (fun _ => true) (4 * S.length)) c) := Lib.hid (by
            rw [rsph_iff hshape.mates, vldB_iff]; exact ⟨fun h => h.2, fun h => ⟨hshape, h⟩⟩)
          have Hheads := Lib.hid (fun (i : Nat) (l : List Nat) => clTo_head (f := fb M (-1)) (per := perOf (fb M (-1)) (4 * S.length)) (wb := fun _ => true) (N := 4 * S.length) (i := i) (l := l) (fun x hx => (perOf_spec (hshape.mates.injB (-1) (by omega)) x hx).1))
          have hfl := clTo_len (fb M (-1)) (perOf (fb M (-1)) (4 * S.length)) (fun _ => true) (4 * S.length)
          have Hlab : Hid (∀ c, c < S.length → ∃ d : Nat, nth (rlabel M S.length) c = (d : Int) ∧ d < S.length) := Lib.hid fun c hc => by
            obtain ⟨d, h1, h2, _⟩ := rlabel_spec hshape.mates c hc
            exact ⟨d, h1, h2⟩
          have Hlabl : Hid ((ints (rlabel M S.length)).length = S.length) := Lib.hid (by rw [ints_length]; exact (rlPass_inv hshape.mates S.length).1.1)
          clear hshape Hno Hsg Hmt
          go_wp2_with fail
          refine (rlabel_any M S.length aM cM _ (by omega) H2.out Hmok.out (HM.out.later hb)).mono ?_
          rintro e w2 ⟨aB, cB, rfl, hb2, hOl⟩
          have hb2' := below_step hb hb2
          have hsz2 := hb2'.size
          have Hbox2 := Lib.hid (Hbox.out.later hb2 hz)
          have hc1 := Hbox2.out.cell 1
          simp only [List.getElem?_cons_succ, List.getElem?_cons_zero] at hc1
          have HOl := Lib.hid (hOl.mono hb.size)
          clear hOl Hbox hb hb2 hc0 hc2 Hbd
          go_wp2_with fail
          refine (faces_any M S.length aM cM _ (by omega) H2.out Hmok.out (HM.out.later hb2')).mono ?_
          rintro e w3 ⟨aF, cF, rfl, hb3, hOf⟩
          have hb3' := below_step hb2' hb3
          have HOl3 := Lib.hid (HOl.out.later hb3 (Nat.le_refl _))
          have HOf := Lib.hid (hOf.mono hsz2)
          clear hOf HOl Hbox2 hb2' hb3 hc1
          generalize rlabel M S.length = lab at *
          generalize clTo (fb M (-1)) (perOf (fb M (-1)) (4 * S.length)) (fun _ => true) (4 * S.length) = ls at *
          go_wp2_with fail
          go_loopg [9] S.length (fun g i wr => ∃ c : Nat, c ≤ S.length ∧ g = S.length - c ∧ i = .int .i64 c ∧ wr = w3 ∧ ∀ d, d < c → rsOk lab S.length ls d)
          case atStart => exact ⟨0, Nat.zero_le _, rfl, rfl, rfl, fun d hd => by omega⟩
          case round =>
            obtain ⟨c, hc, rfl, rfl, rfl, hok⟩ := hrel
            have Hokc := Lib.hid hok; clear hok
            by_cases hlt : c < S.length
            · obtain ⟨d, hd, hdl⟩ := Hlab.out c hlt
              obtain ⟨b, off, rfl, _, hbl, hcell, _⟩ := HOl3.out.open (by rw [Hlabl.out]; omega)
              have hcc := hcell c _ (ints_get _ _ (by have := Hlabl.out; rw [ints_length] at this; omega))
              have Hcell : Hid (∀ x, x < S.length → wr.cell? ⟨b, off + x, none⟩ = some (.int .i64 (nth lab x))) := Lib.hid fun x hx => hcell x _ (ints_get _ _ (by have := Hlabl.out; rw [ints_length] at this; omega))
              clear hcell
              have Hd := Lib.hid hd
              rw [hd] at hcc
              clear hd
              by_cases hdc : d = c
              · subst hdc
                have t1 : ((d : Int) != (d : Int)) = false := by simp
                go_wp2_with fail
                go_loopg [12, 10] S.length (fun g i v wi => ∃ k : Nat, k ≤ S.length ∧ g = S.length - k ∧ i = .int .i64 k ∧ v = .int .i64 (rvTo lab d k : Nat) ∧ wi = wr)
                case atStart => exact ⟨0, Nat.zero_le _, rfl, rfl, by simp [rvTo], rfl⟩
                case round =>
                  obtain ⟨k, hk, rfl, rfl, rfl, rfl⟩ := hrel
                  have hvk := rvTo_le lab d k
                  by_cases hkl : k < S.length
                  · obtain ⟨e, he, hel⟩ := Hlab.out k hkl
                    have hck := Hcell.out k hkl
                    have Hs := Lib.hid (rvTo_succ lab d k)
                    rw [he] at hck
                    by_cases hed : e = d
                    · have t2 : ((e : Int) == (d : Int)) = true := by rw [hed]; simp
                      have HE : Hid (rvTo lab d (k + 1) = rvTo lab d k + 1) := Lib.hid (by rw [Hs.out, if_pos (by rw [he, hed])])
                      generalize rvTo lab d k = v at *
                      clear he hed
                      go_wp2_with fail
                      go_roundg (S.length - (k + 1))
                      case measure => omega
                      case rel => exact ⟨k + 1, by omega, rfl, by go_num, by rw [HE.out]; go_num, rfl⟩
                    · have t2 : ((e : Int) == (d : Int)) = false := by simpa using fun h : (e : Int) = d => hed (by omega)
                      have HE : Hid (rvTo lab d (k + 1) = rvTo lab d k) := Lib.hid (by rw [Hs.out, if_neg (by rw [he]; omega)])
                      generalize rvTo lab d k = v at *
                      clear he hed
                      go_wp2_with fail
                      go_roundg (S.length - (k + 1))
                      case measure => omega
                      case rel => exact ⟨k + 1, by omega, rfl, by go_num, by rw [HE.out], rfl⟩
                  · obtain rfl : k = S.length := by omega
                    have Hrv : Hid (rvTo lab d S.length = rvTo lab d S.length) := Lib.hid rfl
                    go_wp2_with fail
                    go_loopg [13, 11] ls.length (fun g i v wi => ∃ k : Nat, k ≤ ls.length ∧ g = ls.length - k ∧ i = .int .i64 k ∧ v = .int .i64 (rfTo lab d (ls.take k) : Nat) ∧ wi = wr)
                    case atStart => exact ⟨0, Nat.zero_le _, rfl, rfl, by simp [rfTo], rfl⟩
                    case round =>
                      obtain ⟨k, hk, rfl, rfl, rfl, rfl⟩ := hrel
                      have hfk := rfTo_le lab d (ls.take k)
                      rw [List.length_take] at hfk
                      by_cases hkl : k < ls.length
                      · obtain ⟨l, hl⟩ : ∃ l, ls[k]? = some l := ⟨_, List.getElem?_eq_getElem hkl⟩
                        obtain ⟨g1, g2, g3⟩ := Hheads.out k l hl
                        have Hs := Lib.hid (rfTo_take lab d ls k l hl)
                        obtain ⟨bF, oF, rfl, _, hbF, hF⟩ := HOf.out.open (by simpa using (show 0 < ls.length by omega))
                        obtain ⟨aR, cR, hcF, hoR⟩ := hF k (nats l) (by rw [List.getElem?_map, hl]; rfl)
                        rw [nats_length] at hcF
                        obtain ⟨bR, oR, rfl, _, hbR, hR, _⟩ := hoR.open (by rw [ints_length, nats_length]; exact g1)
                        have hcR := hR 0 _ (ints_get _ _ (by rw [nats_length]; exact g1))
                        rw [g3, Nat.add_zero] at hcR
                        obtain ⟨e, he, hel⟩ := Hlab.out (l.headD 0 / 4) (by omega)
                        have hck := Hcell.out (l.headD 0 / 4) (by omega)
                        rw [he] at hck
                        have hq1 : ((l.headD 0 : Nat) : Int) / 4 < (S.length : Int) := by omega
                        clear hF hR hoR
                        generalize l.headD 0 = x at *
                        generalize l.length = y at *
                        by_cases hed : e = d
                        · have t2 : ((e : Int) == (d : Int)) = true := by rw [hed]; simp
                          have HE : Hid (rfTo lab d (ls.take (k + 1)) = rfTo lab d (ls.take k) + 1) := Lib.hid (by rw [Hs.out, if_pos (by rw [he, hed])])
                          generalize rfTo lab d (ls.take k) = v at *
                          clear he hed
                          go_wp2_with fail
                          go_roundg (ls.length - (k + 1))
                          case measure => omega
                          case rel => exact ⟨k + 1, by omega, rfl, by go_num, by rw [HE.out]; go_num, rfl⟩
                        · have t2 : ((e : Int) == (d : Int)) = false := by simpa using fun h : (e : Int) = d => hed (by omega)
                          have HE : Hid (rfTo lab d (ls.take (k + 1)) = rfTo lab d (ls.take k)) := Lib.hid (by rw [Hs.out, if_neg (by rw [he]; omega)])
                          generalize rfTo lab d (ls.take k) = v at *
                          clear he hed
                          go_wp2_with fail
                          go_roundg (ls.length - (k + 1))
                          case measure => omega
                          case rel => exact ⟨k + 1, by omega, rfl, by go_num, by rw [HE.out], rfl⟩
                      · obtain rfl : k = ls.length := by omega
                        rw [List.take_length] at *
                        have Hrs : Hid (rsOk lab S.length ls d ↔ rfTo lab d ls = rvTo lab d S.length + 2) := Lib.hid ⟨fun h => h Hd.out, fun h _ => h⟩
                        generalize rfTo lab d ls = fl at *
                        generalize rvTo lab d S.length = vl at *
                        by_cases hfv : fl = vl + 2
                        · have t3 : ((fl : Int) != (vl : Int) + 2) = false := by rw [hfv]; simp
                          have Hn : Hid (rsOk lab S.length ls d) := Lib.hid (Hrs.out.2 hfv)
                          clear hfv
                          go_wp2_with fail
                          go_roundg (S.length - (d + 1))
                          case measure => omega
                          case rel =>
                            refine ⟨d + 1, by omega, rfl, by go_num, rfl, fun x hx => ?_⟩
                            rcases Nat.lt_or_ge x d with h | h
                            · exact Hokc.out x h
                            · obtain rfl : x = d := by omega
                              exact Hn.out
                        · have t3 : ((fl : Int) != (vl : Int) + 2) = true := by rw [bne_iff_ne]; omega
                          have Hn : Hid (vldB S M L = false) := Lib.hid (by
                            rw [← Bool.not_eq_true]
                            intro h
                            exact hfv (Hrs.out.1 (Hv.out.1 h d (by omega))))
                          clear hfv
                          go_wp2_with fail
                          go_ret
                          rw [Hn.out]
                          exact ⟨rfl, hb3'⟩
              · have t1 : ((d : Int) != (c : Int)) = true := by rw [bne_iff_ne]; omega
                have Hn : Hid (rsOk lab S.length ls c) := Lib.hid fun h => absurd (Hd.out.symm.trans h) (by omega)
                clear hdc
                go_wp2_with fail
                go_roundg (S.length - (c + 1))
                case measure => omega
                case rel =>
                  refine ⟨c + 1, by omega, rfl, by go_num, rfl, fun x hx => ?_⟩
                  rcases Nat.lt_or_ge x c with h | h
                  · exact Hokc.out x h
                  · obtain rfl : x = c := by omega
                    exact Hn.out
            · obtain rfl : c = S.length := by omega
              have Hn : Hid (vldB S M L = true) := Lib.hid (Hv.out.2 Hokc.out)
              go_wp2_with fail
              go_ret
              rw [Hn.out]
              exact ⟨rfl, hb3'⟩
end Go.Proofs.Ytkopbcehfbmnmaa
