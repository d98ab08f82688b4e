/- connect.Nugatory: the nugatory crossings. -/
import Derived.Test.YtmjoijfafachhaaNugP
import Derived.Test.YtmjoijfafachhaaDCloneW
namespace Go.Proofs.Ytmjoijfafachhaa
open Go Go.RowKit
/-- Four places of a slice. -/
theorem four_at {w : World} {B b o c : Nat} {F : List Int} (h : Own w B 3 (some ⟨b, o, none⟩) c (ints F)) (k : Nat) (hk : k + 4 ≤ F.length) : IntsAt w (some ⟨b, o + k, none⟩) [nth F k, nth F (k + 1), nth F (k + 2), nth F (k + 3)] := fun i v hi => by
  obtain ⟨b', o', e, _, hc⟩ := h.ints.open (by omega)
  simp only [Option.some.injEq, Addr.mk.injEq, and_true] at e
  obtain ⟨rfl, rfl⟩ := e
  refine ⟨b, o + k, rfl, ?_⟩
  have h4 : i < 4 := (List.getElem?_eq_some_iff.1 hi).1
  have hn : v = .int .i64 (nth F (k + i)) := by
    rcases (by omega : i = 0 ∨ i = 1 ∨ i = 2 ∨ i = 3) with rfl | rfl | rfl | rfl <;> exact (Option.some.inj hi).symm
  rw [Nat.add_assoc, hn]
  exact hc (k + i) (by omega)
set_option maxRecDepth 100000 in
set_option maxHeartbeats 4000000 in
theorem nugatory_yes (S M : List Int) (L : Int) (aS aM : Option Addr) (cS cM : Nat) (w : World) (hv : vldB S M L = true) (hS : IntsAt w aS S) (hM : IntsAt w aM M) :
    Calls Try.prog 35 #[.agg #[.slice aS S.length cS, .slice aM M.length cM, .int .i64 L]] w fun e w' => ∃ a c, e = .returned (.slice a (nugL S M).length c) ∧ Own w' w.heap.size 3 a c (ints (nats (nugL S M))) ∧ Below w.heap.size w w' := by
  have hs := vldB_shape hv
  have hfw := hs.few
  have HV : Hid (∀ W', Below w.heap.size w W' → Calls Try.prog 26 #[.agg #[.slice aS S.length cS, .slice aM M.length cM, .int .i64 L]] W' fun e w' => e = .returned (.bool true) ∧ Below W'.heap.size W' w') := Lib.hid fun W' h => by
    have g := valid_any S M L aS aM cS cM W' (by omega) (by rw [hs.len]; omega) (hS.later h) (hM.later h)
    rw [hv] at g; exact g
  have HF : Hid (∀ W', Below w.heap.size w W' → Calls Try.prog 58 #[.agg #[.slice aS S.length cS, .slice aM M.length cM, .int .i64 L]] W' fun e w' => ∃ a c, e = .returned (.slice a (4 * S.length) c) ∧ Own w' W'.heap.size 3 a c (ints (leftL M S.length)) ∧ Below W'.heap.size W' w') := Lib.hid fun W' h => left_any S M L aS aM cS cM W' hv (hS.later h) (hM.later h)
  have hFl : (leftL M S.length).length = 4 * S.length := leftTo_len _ _ _
  have HN : Hid (nugL S M = nugTo (leftL M S.length) S.length) := Lib.hid rfl
  rw [HN.out]
  clear hs hv hS hM HN
  generalize leftL M S.length = F at *
  have H0 := Lib.hid ((HH.start w).alloc #[.slice aS S.length cS, .slice aM M.length cM, .int .i64 L] 24 rfl rfl)
  generalize S.length = n at *
  obtain ⟨i0, hi0, hz0, hz1, hz2⟩ := info_parts Try.info3
  have Hfl := Lib.hid hFl
  clear hFl
  go_enter Try.func35, Try.ntmps35
  go_wp2_with fail
  refine (HV.out _ H0.out.below).mono ?_
  rintro e w1 ⟨rfl, hb⟩
  have H1 := Lib.hid (H0.out.call hb)
  clear hb H0 HV
  have k0 := H1.out.cell (k := 0) (i := 0) rfl rfl
  have k1 := H1.out.cell (k := 0) (i := 1) rfl rfl
  have k2 := H1.out.cell (k := 0) (i := 2) rfl rfl
  go_wp2_with fail
  clear k0 k1 k2
  refine (HF.out _ H1.out.below).mono ?_
  rintro e w2 ⟨aF, cF, rfl, ho, hb⟩
  have H2 := Lib.hid ((H1.out.addSl hb ho).addNil 3)
  clear hb ho H1 HF
  have k0 := H2.out.cell (k := 0) (i := 0) rfl rfl
  go_wp2_with fail
  clear k0
  go_loopg [15, 4] n (fun g v s4 wr => ∃ (i : Nat) (A : Option Addr) (C : Nat), i ≤ n ∧ g = n - i ∧ v = .int .i64 i ∧ s4 = .slice A (nugTo F i).length C ∧ HH w wr [(w.heap.size, rowO 24 [.slice aS n cS, .slice aM M.length cM, .int .i64 L])] [⟨aF, cF, 3, ints F⟩, ⟨A, C, 3, ints (nats (nugTo F i))⟩])
  case atStart => exact ⟨0, none, 0, Nat.zero_le _, rfl, rfl, rfl, H2.out⟩
  case round =>
    obtain ⟨i, A, C, hi, rfl, rfl, rfl, hh⟩ := hrel
    have Hh := Lib.hid hh
    clear hh H2
    have hnl := nugTo_len F i
    by_cases hil : i < n
    · have hcap := (Hh.out.sl (k := 0) rfl).size
      dsimp only at hcap
      rw [ints_length, Hfl.out] at hcap
      obtain ⟨bF, oF, rfl, _, _, _, _⟩ := (Hh.out.sl (k := 0) rfl).open (by show 0 < (ints F).length; rw [ints_length, Hfl.out]; omega)
      have H4 := Lib.hid (four_at (Hh.out.sl (k := 0) rfl) (4 * i) (by rw [Hfl.out]; omega))
      have HCl : Hid (∀ cX, Calls Try.prog 73 #[.slice (some ⟨bF, oF + 4 * i, none⟩) 4 cX] wr fun e w' => ∃ a' c', e = .returned (.slice a' 4 c') ∧ Own w' wr.heap.size 3 a' c' (ints [nth F (4 * i), nth F (4 * i + 1), nth F (4 * i + 2), nth F (4 * i + 3)]) ∧ Below wr.heap.size wr w') := Lib.hid fun cX => sclone_own _ _ cX wr (by show 4 ≤ _; omega) (by show 0 < 4; omega) H4.out
      have HNb : Hid (nugB F i = decide ((Lib.compact (srt [nth F (4 * i), nth F (4 * i + 1), nth F (4 * i + 2), nth F (4 * i + 3)])).length < 4)) := Lib.hid rfl
      have HYes := Lib.hid (nugTo_yes (F := F) (k := i))
      have HNo := Lib.hid (nugTo_no (F := F) (k := i))
      generalize hfour : [nth F (4 * i), nth F (4 * i + 1), nth F (4 * i + 2), nth F (4 * i + 3)] = X at *
      have HXl : Hid (X.length = 4) := Lib.hid (by rw [← hfour]; rfl)
      clear hfour H4
      have m4 : IntKind.i64.wrap (4 * (i : Int)) = 4 * (i : Int) := wrapi_mid (by omega) (by omega)
      have m5 : IntKind.i64.wrap (4 * (i : Int) + 4) = 4 * (i : Int) + 4 := wrapi_mid (by omega) (by omega)
      go_wp2_with fail
      refine (HCl.out _).mono ?_
      rintro e w3 ⟨a3, c3, rfl, ho, hb⟩
      have HO3 := Lib.hid ho
      have B3 := Lib.hid hb
      clear ho hb HCl
      go_wp2_with fail
      have hso := sort_own X a3 c3 wr.heap.size w3 HO3.out (by rw [HXl.out]; omega)
      rw [HXl.out] at hso
      have HSo := Lib.hid hso
      clear hso
      refine HSo.out.mono ?_
      rintro e w4 ⟨rfl, ho, ht⟩
      have B4 := Lib.hid (B3.out.trans (ht.below B3.out.size (fun x hx => (HO3.out.lt hx).1)))
      have hco := compact_own (srt X) a3 c3 wr.heap.size w4 ho (by rw [srt_len, HXl.out]; omega) (by rw [srt_len, HXl.out]; omega)
      rw [srt_len, HXl.out] at hco
      have HCo := Lib.hid hco
      have HO4 := Lib.hid ho
      clear ho ht HSo hco HO3 B3
      go_wp2_with fail
      refine HCo.out.mono ?_
      rintro e w5 ⟨rfl, ht⟩
      have H5 := Lib.hid (Hh.out.call (B4.out.trans (ht.below B4.out.size (fun x hx => (HO4.out.lt hx).1))))
      clear ht HCo HO4 B4 Hh
      generalize (Lib.compact (srt X)).length = q at *
      cases hnb : nugB F i
      · have HNo := Lib.hid (HNo.out hnb)
        rw [hnb] at HNb
        have d1 : ¬ q < 4 := of_decide_eq_false HNb.out.symm
        have d2 : decide (q < 4) = false := HNb.out.symm
        have d3 : decide ((q : Int) < 4) = false := decide_eq_false (by omega)
        clear hnb HYes
        go_wp2_with fail
        go_roundg (n - (i + 1))
        case measure => omega
        case rel => exact ⟨i + 1, A, C, by omega, rfl, by go_num, by rw [HNo.out], by rw [HNo.out]; exact H5.out⟩
      · have HYes := Lib.hid (HYes.out hnb)
        rw [hnb] at HNb
        have d1 : q < 4 := of_decide_eq_true HNb.out.symm
        have d2 : decide (q < 4) = true := HNb.out.symm
        have d3 : decide ((q : Int) < 4) = true := decide_eq_true (by omega)
        have Ha := Lib.hid (H5.out.call ((Below.refl _ _).alloc (Nat.le_refl _) (.cells #[.int .i64 (i : Int)] 3)))
        have Hc0 : Hid ((w5.alloc (.cells #[.int .i64 (i : Int)] 3)).cell? ⟨w5.heap.size, 0, none⟩ = some (.int .i64 (i : Int))) := Lib.hid ((Row.new w5 #[.int .i64 (i : Int)] 3).cell 0)
        have Hl1 := Lib.hid Ha.out.below.size
        have Hnt : Hid ((ints (nats (nugTo F i))).length = (nugTo F i).length) := Lib.hid (by rw [ints_length, nats_length])
        clear hnb HNo
        go_wp2_with (with_reducible refine wpList_append_one rfl (.tmp 32) (.tmp 34) 22 rfl w.heap.size 3 i0 _ 8 Try.underlying22 hi0 hz0 hz1 hz2 rfl A (nugTo F i).length C (ints (nats (nugTo F i))) rfl Hnt.out (Ha.out.sl (k := 1) rfl) ⟨w5.heap.size, 0, none⟩ 1 (.int .i64 (i : Int)) rfl Hc0.out rfl (by omega) (by omega) Hl1.out ?_; intro A7 e7 w7 hO7 hT7 hA7; have HO7 := Lib.hid hO7; have HT7 := Lib.hid hT7; have HA7 := Lib.hid hA7; clear hO7 hT7 hA7)
        have H7 := Lib.hid (Ha.out.grow (k := 1) rfl HO7.out HT7.out HA7.out)
        go_roundg (n - (i + 1))
        case measure => omega
        case rel =>
          refine ⟨i + 1, A7, e7, by omega, rfl, by go_num, by rw [HYes.out, List.length_append]; rfl, ?_⟩
          rw [HYes.out, ← nats_snoc, ← ints_snoc]
          exact H7.out
    · obtain rfl : i = n := by omega
      go_wp2_with fail
      go_ret
      exact ⟨A, C, rfl, Hh.out.sl (k := 1) rfl, Hh.out.below⟩
end Go.Proofs.Ytmjoijfafachhaa
