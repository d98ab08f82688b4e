/- The walk of diagram.label: it returns what lbOuter says, in new memory. -/
import Derived.Test.YtmjoijfafachhaaProg
import Derived.Test.YtmjoijfafachhaaPlainA
namespace Go.Proofs.Ytmjoijfafachhaa
open Go Go.RowKit
theorem Try.info3 : (Try.prog.info? 3).map (fun i => (i.zero, i.size, i.bytes)) = some (some (.int .i64 0), 1, 8) := by kernel_rfl
set_option maxRecDepth 100000 in
set_option maxHeartbeats 4000000 in
theorem label_any (S M : List Int) (L : Int) (aS aM : Option Addr) (cS cM : Nat) (w : World) (fuel : Nat) (part : List Int) (parts : Int)
    (hS : S.length ≤ 1000) (hfu : fuel ≤ 1000000) (hl : M.length = 4 * S.length) (hM : IntsAt w aM M) (hr : ∀ i, i < 4 * S.length → 0 ≤ nth M i ∧ nth M i < 4 * (S.length : Int))
    (hres : lbOuter M fuel S.length 0 (List.replicate S.length (-1), 0) = some (part, parts)) :
    Calls Try.prog 68 #[.agg #[.slice aS S.length cS, .slice aM M.length cM, .int .i64 L]] w fun e w' => ∃ a c, e = .returned (.tuple #[.slice a part.length c, .int .i64 parts]) ∧ Below w.heap.size w w' ∧ Own w' w.heap.size 3 a c (ints part) := by
  obtain ⟨i0, hi, hz0, hz1, hz2⟩ := info_parts Try.info3
  have HL := Lib.hid hl; clear hl
  have HR := Lib.hid hres; clear hres
  have HM := Lib.hid hM; clear hM
  have Hr := Lib.hid hr; clear hr
  generalize hn : S.length = n at *
  have Hn := Lib.hid hn; clear hn
  go_enter Try.func68, Try.ntmps68
  go_wp2_with (refine wpList_make_one rfl (.tmp 14) 22 rfl 3 i0 (.int .i64 0) 8 Try.underlying22 hi hz0 hz1 hz2 rfl .i64 _ n rfl rfl (by omega) (by omega) ?_)
  go_loopg [18] n (fun g i wr => ∃ k : Nat, k ≤ n ∧ g = n - k ∧ i = .int .i64 k ∧ Below w.heap.size w wr ∧ Row wr w.heap.size 24 [.slice aS n cS, .slice aM M.length cM, .int .i64 L] ∧ Row wr (w.heap.size + 1) 3 (ints (List.replicate k (-1) ++ List.replicate (n - k) 0)))
  case atStart =>
    refine ⟨0, Nat.zero_le _, rfl, rfl, ?_, ?_, ?_⟩
    · exact ((Below.refl _ _).alloc (Nat.le_refl _) _).alloc (by simp) _
    · exact (Row.new w #[_, _, _] 24).alloc _
    · have := Row.new (w.alloc (.cells #[Value.slice aS n cS, Value.slice aM M.length cM, Value.int IntKind.i64 L] 24)) (Array.replicate n (Value.int .i64 0)) 3
      simpa [ints] using this
  case round =>
    obtain ⟨k, hk, rfl, rfl, hb, hbox, hrow⟩ := hrel
    have hlen : (List.replicate k (-1) ++ List.replicate (n - k) (0 : Int)).length = n := by simp; omega
    by_cases hlt : k < n
    · have hc := hrow.int k (by omega)
      have hf := hrow.frozen k
      have hnew := hrow.setInt k (-1)
      have Hnew : Hid (Row (wr.setCell ⟨w.heap.size + 1, k, none⟩ (.int .i64 (-1))) (w.heap.size + 1) 3 (ints (List.replicate (k + 1) (-1) ++ List.replicate (n - (k + 1)) 0))) := by
        have : (List.replicate k (-1) ++ List.replicate (n - k) (0 : Int)).set k (-1) = List.replicate (k + 1) (-1) ++ List.replicate (n - (k + 1)) 0 := by
          rw [List.set_append_right (h := by simp), show n - k = (n - (k+1)) + 1 from by omega, List.replicate_succ, List.replicate_succ']
          simp
        rw [this] at hnew; exact hnew
      have Hbox := Lib.hid (hbox.setOther ⟨w.heap.size + 1, k, none⟩ (.int .i64 (-1)) (by simp))
      clear hnew hlen hrow hbox
      go_wp2
      go_roundg (n - (k + 1))
      case measure => omega
      case rel => exact ⟨k + 1, by omega, rfl, by go_num, hb.setCell (by simp) _, Hbox, Hnew⟩
    · obtain rfl : k = n := by omega
      rw [Nat.sub_self, List.replicate_zero, List.append_nil] at hrow
      clear hlen
      go_wp2
      go_loopg [6, 27] k (fun g ps i wo => ∃ (c : Nat) (p : List Int) (q : Int), c ≤ k ∧ g = k - c ∧ i = .int .i64 c ∧ ps = .int .i64 q ∧ 0 ≤ q ∧ q ≤ c ∧ p.length = k ∧ lbOuter M fuel (k - c) c (p, q) = some (part, parts) ∧ Below w.heap.size w wo ∧ Row wo w.heap.size 24 [.slice aS k cS, .slice aM M.length cM, .int .i64 L] ∧ Row wo (w.heap.size + 1) 3 (ints p))
      case atStart => exact ⟨0, List.replicate k (-1), 0, Nat.zero_le _, rfl, rfl, rfl, by omega, by omega, by simp, HR.out, hb, hbox, hrow⟩
      case round =>
        clear hb hbox hrow hlt
        obtain ⟨c, p, q, hck, rfl, rfl, rfl, hq0, hq1, hpl, hout, hb, hbox, hrow⟩ := hrel
        by_cases hlt : c < k
        · rw [show k - c = (k - (c + 1)) + 1 from by omega, lbOuter] at hout
          obtain ⟨st1, hround, hrest⟩ := Option.bind_eq_some_iff.1 hout
          clear hout
          have HRest := Lib.hid hrest; clear hrest
          have hc := hrow.int c (by omega)
          unfold lbRound at hround
          by_cases hneg : 0 ≤ nth p c
          · rw [if_pos hneg] at hround
            simp only [Option.some.injEq] at hround
            have HRd := Lib.hid hround; clear hround
            have Hrow := Lib.hid hrow; clear hrow
            go_wp2
            go_roundg (k - (c + 1))
            case measure => omega
            case rel =>
              have e := HRd.out
              subst e
              exact ⟨c + 1, p, q, by omega, rfl, by go_num, rfl, hq0, by omega, hpl, HRest.out, hb, hbox, Hrow.out⟩
          · rw [if_neg hneg] at hround
            obtain ⟨p', hq', he⟩ := Option.map_eq_some_iff.1 hround
            clear hround
            have HQ := Lib.hid hq'; clear hq'
            have HE := Lib.hid he; clear he
            have hf := hrow.frozen c
            have hs := hrow.lt
            have Hp := Lib.hid hpl; clear hpl
            go_wp2
            go_loopg [8] fuel (fun g qv wi => ∃ (pp qq : List Int) (A : Option Addr) (cc : Nat), qv = .slice A qq.length cc ∧ Own wi (w.heap.size + 2) 3 A cc (ints qq) ∧ pp.length = k ∧ (∀ y ∈ qq, 0 ≤ y ∧ y < (k : Int)) ∧ lbQueue M q g (pp, qq) = some p' ∧ g ≤ fuel ∧ Below w.heap.size w wi ∧ Row wi w.heap.size 24 [.slice aS k cS, .slice aM M.length cM, .int .i64 L] ∧ Row wi (w.heap.size + 1) 3 (ints pp))
            case atStart =>
              refine ⟨p.set c q, [(c : Int)], some ⟨wr.heap.size, 0, none⟩, 1, rfl, ?_, ?_, ?_, HQ.out, Nat.le_refl _, ?_, ?_, ?_⟩
              · have := Own.made (w := wr.setCell ⟨w.heap.size + 1, c, none⟩ (.int .i64 q)) (B := w.heap.size + 2) (E := 3) #[Value.int .i64 c] (by simp; omega)
                simpa [ints] using this
              · simpa using Hp.out
              · intro y hy; simp at hy; subst hy; omega
              · exact (hb.setCell (by simp) _).alloc (by simp; omega) _
              · exact (hbox.setOther _ _ (by simp)).alloc _
              · exact (hrow.setInt c q).alloc _
            case round =>
              clear hc hf hs hb hbox hrow hneg
              obtain ⟨pp, qq, A, cc, rfl, hown, hpl, hrng, hlq, hgf, hb, hbox, hrow⟩ := hrel
              cases qq with
              | nil =>
                have HE2 : p' = pp := by cases gk <;> (simp only [lbQueue, Option.some.injEq] at hlq; exact hlq.symm)
                subst HE2
                clear hlq
                have HO := Lib.hid hown; clear hown
                have Hr1 := Lib.hid hrow; clear hrow
                go_wp2
                go_roundg (k - (c + 1))
                case measure => omega
                case rel =>
                  have e := HE.out
                  subst e
                  exact ⟨c + 1, p', q + 1, by omega, rfl, by go_num, rfl, by omega, by omega, hpl, HRest.out, hb, hbox, Hr1.out⟩
              | cons x qq =>
                obtain ⟨g1, rfl⟩ : ∃ g1, gk = g1 + 1 := by
                  cases gk with
                  | zero => simp [lbQueue] at hlq
                  | succ g1 => exact ⟨g1, rfl⟩
                rw [lbQueue] at hlq
                have hx := hrng x (by simp)
                obtain ⟨b, off, rfl, hB, hlt2, hcell, hfr⟩ := hown.open (by simp [ints])
                have hc0 := hcell 0 (.int .i64 x) (by simp [ints])
                clear hcell
                rw [Nat.add_zero] at hc0
                have HQ2 := Lib.hid hlq; clear hlq
                have HO := Lib.hid hown; clear hown
                have Hr1 := Lib.hid hrow; clear hrow
                have Hrng := Lib.hid (fun y hy => hrng y (List.mem_cons_of_mem _ hy)); clear hrng
                have hlen : (ints (x :: qq)).length = (x :: qq).length := ints_length _
                have Hlen := Lib.hid hlen; clear hlen
                obtain ⟨hx0, hx1⟩ := hx
                obtain ⟨xn, rfl⟩ := Int.eq_ofNat_of_zero_le hx0
                have hx1' : xn < k := by omega
                go_wp2_with (with_reducible refine wpList_tail rfl (.tmp 47) 22 3 i0 Try.underlying22 hi hz1 rfl (w.heap.size + 2) b off _ cc (ints ((xn : Int) :: qq)) rfl Hlen.out (by simp) HO.out ?_; intro A' HO' HA')
                have HO2 : Hid (Own wr (w.heap.size + 2) 3 A' (cc - 1) (ints qq)) := Lib.hid (by simpa [ints] using HO')
                have Hr2 := Hr1
                have Hb2 := Lib.hid hb
                have Hbox2 := Lib.hid hbox
                clear HO' HA' hc0 hfr HO Hr1 Hlen hb hbox
                go_loopg [49, 8] 4 (fun g i qv ws => ∃ (s : Nat) (A : Option Addr) (cc : Nat), s ≤ 4 ∧ g = 4 - s ∧ i = .int .i64 s ∧ qv = .slice A (lbSlots M q xn s (pp, qq)).2.length cc ∧ Own ws (w.heap.size + 2) 3 A cc (ints (lbSlots M q xn s (pp, qq)).2) ∧ Below w.heap.size w ws ∧ Row ws w.heap.size 24 [.slice aS k cS, .slice aM M.length cM, .int .i64 L] ∧ Row ws (w.heap.size + 1) 3 (ints (lbSlots M q xn s (pp, qq)).1))
                case atStart => exact ⟨0, A', cc - 1, Nat.zero_le _, rfl, rfl, rfl, HO2.out, Hb2.out, Hbox2.out, Hr2.out⟩
                case round =>
                  obtain ⟨s, A, cd, hs4, rfl, rfl, rfl, hown, hb, hbox, hrow⟩ := hrel
                  clear HO2 Hr2 Hb2 Hbox2
                  have hl1 := lbSlots_len1 M q xn s (pp, qq)
                  have hl2 := (lbSlots_len2 M q xn s (pp, qq)).2
                  have hg := (lbQueue_fuel _ _ _ _ _ HQ2.out).1
                  have hl3 := (lbSlots_len2 M q xn 4 (pp, qq)).1
                  have hbl : (lbSlots M q xn s (pp, qq)).2.length ≤ 2000000 := by simp only [] at hl2 hl3; omega
                  have hrg := lbSlots_range M q xn s (pp, qq) k Hr.out (by simpa using hx1') hs4 (fun y hy => Hrng.out y hy)
                  generalize hst : lbSlots M q xn s (pp, qq) = st at *
                  have Hst := Lib.hid hst; clear hst
                  by_cases hlt : s < 4
                  · obtain ⟨bM, oM, rfl, hbM, hcM⟩ := HM.out.open (by rw [HL.out]; omega)
                    have hcm := hcM (4 * xn + s) (by rw [HL.out]; omega)
                    rw [← hb.cell (p := ⟨bM, oM + (4 * xn + s), none⟩) hbM] at hcm
                    obtain ⟨hm0, hm1⟩ := Hr.out (4 * xn + s) (by omega)
                    obtain ⟨m, hm⟩ := Int.eq_ofNat_of_zero_le hm0
                    rw [hm] at hcm hm1
                    have Hm := Lib.hid hm; clear hm hm0 hcM
                    have hm2 : m / 4 < k := by omega
                    have hML : 4 * (xn : Int) + (s : Int) < (M.length : Int) := by rw [HL.out]; omega
                    have hplen : st.1.length = k := by rw [hl1]; exact hpl
                    have hct := hrow.int (m / 4) (by omega)
                    have hft := hrow.frozen (m / 4)
                    have hbx := hbox.cell 1
                    have hws := hrow.lt
                    simp only [List.getElem?_cons_succ, List.getElem?_cons_zero] at hbx
                    have Hpl := Lib.hid hplen; clear hplen hl1 hl2 hl3 hg hpl hrg
                    have hto : (nth M (4 * ((xn : Nat) : Int).toNat + s) / 4).toNat = m / 4 := by rw [Int.toNat_natCast, Hm.out]; omega
                    have hto2 : nth M (4 * ((xn : Nat) : Int).toNat + s) / 4 = ((m : Int) / 4) := by rw [Int.toNat_natCast, Hm.out]
                    have Hto := Lib.hid hto; clear hto
                    have Hto2 := Lib.hid hto2; clear hto2
                    by_cases hneg : nth st.1 (m / 4) < 0
                    · have HV : Hid (lbVisit M q xn s st = (st.1.set (m / 4) q, st.2 ++ [(m : Int) / 4])) := by
                        show lbVisit M q xn s st = _
                        unfold lbVisit
                        rw [Hto.out, Hto2.out, if_pos hneg]
                      have HO := Lib.hid hown; clear hown
                      have HR1 := Lib.hid hrow; clear hrow
                      have HB := Lib.hid hb; clear hb
                      have HX := Lib.hid hbox; clear hbox
                      have HO4 : Hid (Own ((wr.setCell ⟨w.heap.size + 1, m / 4, none⟩ (.int .i64 q)).alloc (.cells #[.int .i64 ((m : Int) / 4)] 3)) (w.heap.size + 2) 3 A cd (ints st.2)) :=
                        Lib.hid ((HO.out.kept (fun x hx => Below.heap_setCell _ _ _ _ (by have := HO.out.lt hx; simp; omega))).alloc _)
                      have HC4 : Hid (((wr.setCell ⟨w.heap.size + 1, m / 4, none⟩ (.int .i64 q)).alloc (.cells #[.int .i64 ((m : Int) / 4)] 3)).cell? ⟨wr.heap.size, 0, none⟩ = some (.int .i64 ((m : Int) / 4))) := Lib.hid (by have := World.cell?_alloc_new (wr.setCell ⟨w.heap.size + 1, m / 4, none⟩ (.int .i64 q)) #[.int .i64 ((m : Int) / 4)] 3 0; simpa using this)
                      have HS4 : Hid (w.heap.size + 2 ≤ ((wr.setCell ⟨w.heap.size + 1, m / 4, none⟩ (.int .i64 q)).alloc (.cells #[.int .i64 ((m : Int) / 4)] 3)).heap.size) := Lib.hid (by simp; omega)
                      go_wp2_with (with_reducible refine wpList_append_one rfl (.tmp 70) (.tmp 72) 22 rfl (w.heap.size + 2) 3 i0 (.int .i64 0) 8 Try.underlying22 hi hz0 hz1 hz2 rfl A _ cd (ints st.2) rfl (ints_length _) HO4.out _ 1 (.int .i64 ((m : Int) / 4)) rfl HC4.out rfl (by omega) (by omega) HS4.out ?_; intro A2 c2 w2 hO2 hT2 hA2)
                      have hbl2 : Below (w.heap.size + 2) ((wr.setCell ⟨w.heap.size + 1, m / 4, none⟩ (.int .i64 q)).alloc (.cells #[.int .i64 ((m : Int) / 4)] 3)) w2 :=
                        hT2.below (by simp; omega) (fun x hx => (HO.out.lt hx).1)
                      go_roundg (4 - (s + 1))
                      case measure => omega
                      case rel =>
                        have e : lbSlots M q xn (s + 1) (pp, qq) = (st.1.set (m / 4) q, st.2 ++ [(m : Int) / 4]) := by rw [lbSlots, Hst.out, HV.out]
                        refine ⟨s + 1, A2, c2, by omega, rfl, by go_num, by rw [e]; simp, ?_, ?_, ?_, ?_⟩
                        · rw [e, ← ints_snoc]; exact hO2
                        · exact ((HB.out.setCell (by simp) _).alloc (by simp; omega) _).trans (hbl2.mono (by omega))
                        · exact ((HX.out.setOther ⟨w.heap.size + 1, m / 4, none⟩ (.int .i64 q) (by simp)).alloc (.cells #[.int .i64 ((m : Int) / 4)] 3)).later hbl2 (by omega)
                        · rw [e]; exact ((HR1.out.setInt (m / 4) q).alloc (.cells #[.int .i64 ((m : Int) / 4)] 3)).later hbl2 (by omega)
                    · have HV : Hid (lbVisit M q xn s st = st) := by
                        show lbVisit M q xn s st = _
                        unfold lbVisit
                        rw [Hto.out, if_neg hneg]
                      have HO := Lib.hid hown; clear hown
                      have HR1 := Lib.hid hrow; clear hrow
                      go_wp2
                      go_roundg (4 - (s + 1))
                      case measure => omega
                      case rel =>
                        have e : lbSlots M q xn (s + 1) (pp, qq) = st := by rw [lbSlots, Hst.out, HV.out]
                        exact ⟨s + 1, A, cd, by omega, rfl, by go_num, by rw [e], by rw [e]; exact HO.out, hb, hbox, by rw [e]; exact HR1.out⟩
                  · obtain rfl : s = 4 := by omega
                    have HR1 := Lib.hid hrow; clear hrow
                    have HO := Lib.hid hown; clear hown
                    go_wp2
                    go_roundg g1
                    case measure => omega
                    case rel =>
                      have e := HQ2.out
                      rw [Hst.out] at e
                      exact ⟨st.1, st.2, A, cd, rfl, HO.out, by rw [hl1]; exact hpl, hrg, e, by omega, hb, hbox, HR1.out⟩
        · obtain rfl : c = k := by omega
          rw [Nat.sub_self, lbOuter] at hout
          simp only [Option.some.injEq, Prod.mk.injEq] at hout
          obtain ⟨rfl, rfl⟩ := hout
          have Hrow := Lib.hid hrow; clear hrow
          have HE : ∃ a cc, Ending.returned (.tuple #[.slice (some ⟨w.heap.size + 1, 0, none⟩) p.length p.length, .int .i64 q]) = Ending.returned (.tuple #[.slice a p.length cc, .int .i64 q]) ∧ Below w.heap.size w wr ∧ Own wr w.heap.size 3 a cc (ints p) :=
            ⟨some ⟨w.heap.size + 1, 0, none⟩, p.length, rfl, hb, ints_length p ▸ Hrow.out.own (by omega)⟩
          go_wp2
          go_ret2
          rw [hpl] at HE
          simpa [hpl] using HE
end Go.Proofs.Ytmjoijfafachhaa
