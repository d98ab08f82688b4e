/- The walk of diagram.label: it returns what lbOuter says, in new memory. The walks of diagram.outgoing, Turn, Opposite and of the reference's Turn, Out. The walks of diagram.cycle and cycles. -/
import Derived.Test.YtmhhjchnjaefhaaDoorProg
import Derived.WalkKit
import Derived.WalkSpells
import Derived.WalkLawsBesides
import Derived.Deep.AppendSrc
import Derived.Deep.LoopGhost
import Derived.Deep.QuietTactic
import Derived.Deep.RegionWith
import Derived.Deep.DeepMust
import Derived.Deep.DeepFit
import Derived.BigQuiet
import Derived.Lib.Hide
import Derived.Outline
import Derived.Test.YtmhhjchnjaefhaaDoorFbAa
import Derived.Test.YtmhhjchnjaefhaaDoorFbAc
namespace Go.Proofs.YtmhhjchnjaefhaaDoor
open Go Go.RowKit
theorem Tryd.info3 : (Tryd.prog.info? 3).map (fun i => (i.zero, i.size, i.bytes)) = some (some (.int .i64 0), 1, 8) := by kernel_rfl
set_option maxRecDepth 100000 in
set_option maxHeartbeats 4000000 in
theorem label_any (S M : List Int) (L : Int) (aS aM : Option Addr) (cS cM : Nat) (w : World) (fuel : Nat) (part : List Int) (parts : Int)
    (hS : S.length ≤ 1000) (hfu : fuel ≤ 1000000) (hl : M.length = 4 * S.length) (hM : IntsAt w aM M) (hr : ∀ i, i < 4 * S.length → 0 ≤ nth M i ∧ nth M i < 4 * (S.length : Int))
    (hres : lbOuter M fuel S.length 0 (List.replicate S.length (-1), 0) = some (part, parts)) :
    Calls Tryd.prog 61 #[.agg #[.slice aS S.length cS, .slice aM M.length cM, .int .i64 L]] w fun e w' => ∃ a c, e = .returned (.tuple #[.slice a part.length c, .int .i64 parts]) ∧ Below w.heap.size w w' ∧ Own w' w.heap.size 3 a c (ints part) := by
  obtain ⟨i0, hi, hz0, hz1, hz2⟩ := info_parts Tryd.info3
  have HL := Lib.hid hl; clear hl
  have HR := Lib.hid hres; clear hres
  have HM := Lib.hid hM; clear hM
  have Hr := Lib.hid hr; clear hr
  generalize hn : S.length = n at *
  have Hn := Lib.hid hn; clear hn
  go_enter Tryd.func61, Tryd.ntmps61
  go_wp2_with (refine wpList_make_one rfl (.tmp 14) 22 rfl 3 i0 (.int .i64 0) 8 Tryd.underlying22 hi hz0 hz1 hz2 rfl .i64 _ n rfl rfl (by omega) (by omega) ?_)
  go_loopg [18] n (fun g i wr => ∃ k : Nat, k ≤ n ∧ g = n - k ∧ i = .int .i64 k ∧ Below w.heap.size w wr ∧ Row wr w.heap.size 24 [.slice aS n cS, .slice aM M.length cM, .int .i64 L] ∧ Row wr (w.heap.size + 1) 3 (ints (List.replicate k (-1) ++ List.replicate (n - k) 0)))
  case atStart =>
    refine ⟨0, Nat.zero_le _, rfl, rfl, ?_, ?_, ?_⟩
    · exact ((Below.refl _ _).alloc (Nat.le_refl _) _).alloc (by simp) _
    · exact (Row.new w #[_, _, _] 24).alloc _
    · have := Row.new (w.alloc (.cells #[Value.slice aS n cS, Value.slice aM M.length cM, Value.int IntKind.i64 L] 24)) (Array.replicate n (Value.int .i64 0)) 3
      simpa [ints] using this
  case round =>
    obtain ⟨k, hk, rfl, rfl, hb, hbox, hrow⟩ := hrel
    have hlen : (List.replicate k (-1) ++ List.replicate (n - k) (0 : Int)).length = n := by simp; omega
    by_cases hlt : k < n
    · have hc := hrow.int k (by omega)
      have hf := hrow.frozen k
      have hnew := hrow.setInt k (-1)
      have Hnew : Hid (Row (wr.setCell ⟨w.heap.size + 1, k, none⟩ (.int .i64 (-1))) (w.heap.size + 1) 3 (ints (List.replicate (k + 1) (-1) ++ List.replicate (n - (k + 1)) 0))) := by
        have : (List.replicate k (-1) ++ List.replicate (n - k) (0 : Int)).set k (-1) = List.replicate (k + 1) (-1) ++ List.replicate (n - (k + 1)) 0 := by
          rw [List.set_append_right (h := by simp), show n - k = (n - (k+1)) + 1 from by omega, List.replicate_succ, List.replicate_succ']
          simp
        rw [this] at hnew; exact hnew
      have Hbox := Lib.hid (hbox.setOther ⟨w.heap.size + 1, k, none⟩ (.int .i64 (-1)) (by simp))
      clear hnew hlen hrow hbox
      go_wp2
      go_roundg (n - (k + 1))
      case measure => omega
      case rel => exact ⟨k + 1, by omega, rfl, by go_num, hb.setCell (by simp) _, Hbox, Hnew⟩
    · obtain rfl : k = n := by omega
      rw [Nat.sub_self, List.replicate_zero, List.append_nil] at hrow
      clear hlen
      go_wp2
      go_loopg [6, 27] k (fun g ps i wo => ∃ (c : Nat) (p : List Int) (q : Int), c ≤ k ∧ g = k - c ∧ i = .int .i64 c ∧ ps = .int .i64 q ∧ 0 ≤ q ∧ q ≤ c ∧ p.length = k ∧ lbOuter M fuel (k - c) c (p, q) = some (part, parts) ∧ Below w.heap.size w wo ∧ Row wo w.heap.size 24 [.slice aS k cS, .slice aM M.length cM, .int .i64 L] ∧ Row wo (w.heap.size + 1) 3 (ints p))
      case atStart => exact ⟨0, List.replicate k (-1), 0, Nat.zero_le _, rfl, rfl, rfl, by omega, by omega, by simp, HR.out, hb, hbox, hrow⟩
      case round =>
        clear hb hbox hrow hlt
        obtain ⟨c, p, q, hck, rfl, rfl, rfl, hq0, hq1, hpl, hout, hb, hbox, hrow⟩ := hrel
        by_cases hlt : c < k
        · rw [show k - c = (k - (c + 1)) + 1 from by omega, lbOuter] at hout
          obtain ⟨st1, hround, hrest⟩ := Option.bind_eq_some_iff.1 hout
          clear hout
          have HRest := Lib.hid hrest; clear hrest
          have hc := hrow.int c (by omega)
          unfold lbRound at hround
          by_cases hneg : 0 ≤ nth p c
          · rw [if_pos hneg] at hround
            simp only [Option.some.injEq] at hround
            have HRd := Lib.hid hround; clear hround
            have Hrow := Lib.hid hrow; clear hrow
            go_wp2
            go_roundg (k - (c + 1))
            case measure => omega
            case rel =>
              have e := HRd.out
              subst e
              exact ⟨c + 1, p, q, by omega, rfl, by go_num, rfl, hq0, by omega, hpl, HRest.out, hb, hbox, Hrow.out⟩
          · rw [if_neg hneg] at hround
            obtain ⟨p', hq', he⟩ := Option.map_eq_some_iff.1 hround
            clear hround
            have HQ := Lib.hid hq'; clear hq'
            have HE := Lib.hid he; clear he
            have hf := hrow.frozen c
            have hs := hrow.lt
            have Hp := Lib.hid hpl; clear hpl
            go_wp2
            go_loopg [8] fuel (fun g qv wi => ∃ (pp qq : List Int) (A : Option Addr) (cc : Nat), qv = .slice A qq.length cc ∧ Own wi (w.heap.size + 2) 3 A cc (ints qq) ∧ pp.length = k ∧ (∀ y ∈ qq, 0 ≤ y ∧ y < (k : Int)) ∧ lbQueue M q g (pp, qq) = some p' ∧ g ≤ fuel ∧ Below w.heap.size w wi ∧ Row wi w.heap.size 24 [.slice aS k cS, .slice aM M.length cM, .int .i64 L] ∧ Row wi (w.heap.size + 1) 3 (ints pp))
            case atStart =>
              refine ⟨p.set c q, [(c : Int)], some ⟨wr.heap.size, 0, none⟩, 1, rfl, ?_, ?_, ?_, HQ.out, Nat.le_refl _, ?_, ?_, ?_⟩
              · have := Own.made (w := wr.setCell ⟨w.heap.size + 1, c, none⟩ (.int .i64 q)) (B := w.heap.size + 2) (E := 3) #[Value.int .i64 c] (by simp; omega)
                simpa [ints] using this
              · simpa using Hp.out
              · intro y hy; simp at hy; subst hy; omega
              · exact (hb.setCell (by simp) _).alloc (by simp; omega) _
              · exact (hbox.setOther _ _ (by simp)).alloc _
              · exact (hrow.setInt c q).alloc _
            case round =>
              clear hc hf hs hb hbox hrow hneg
              obtain ⟨pp, qq, A, cc, rfl, hown, hpl, hrng, hlq, hgf, hb, hbox, hrow⟩ := hrel
              cases qq with
              | nil =>
                have HE2 : p' = pp := by cases gk <;> (simp only [lbQueue, Option.some.injEq] at hlq; exact hlq.symm)
                subst HE2
                clear hlq
                have HO := Lib.hid hown; clear hown
                have Hr1 := Lib.hid hrow; clear hrow
                go_wp2
                go_roundg (k - (c + 1))
                case measure => omega
                case rel =>
                  have e := HE.out
                  subst e
                  exact ⟨c + 1, p', q + 1, by omega, rfl, by go_num, rfl, by omega, by omega, hpl, HRest.out, hb, hbox, Hr1.out⟩
              | cons x qq =>
                obtain ⟨g1, rfl⟩ : ∃ g1, gk = g1 + 1 := by
                  cases gk with
                  | zero => simp [lbQueue] at hlq
                  | succ g1 => exact ⟨g1, rfl⟩
                rw [lbQueue] at hlq
                have hx := hrng x (by simp)
                obtain ⟨b, off, rfl, hB, hlt2, hcell, hfr⟩ := hown.open (by simp [ints])
                have hc0 := hcell 0 (.int .i64 x) (by simp [ints])
                clear hcell
                rw [Nat.add_zero] at hc0
                have HQ2 := Lib.hid hlq; clear hlq
                have HO := Lib.hid hown; clear hown
                have Hr1 := Lib.hid hrow; clear hrow
                have Hrng := Lib.hid (fun y hy => hrng y (List.mem_cons_of_mem _ hy)); clear hrng
                have hlen : (ints (x :: qq)).length = (x :: qq).length := ints_length _
                have Hlen := Lib.hid hlen; clear hlen
                obtain ⟨hx0, hx1⟩ := hx
                obtain ⟨xn, rfl⟩ := Int.eq_ofNat_of_zero_le hx0
                have hx1' : xn < k := by omega
                go_wp2_with (with_reducible refine wpList_tail rfl (.tmp 47) 22 3 i0 Tryd.underlying22 hi hz1 rfl (w.heap.size + 2) b off _ cc (ints ((xn : Int) :: qq)) rfl Hlen.out (by simp) HO.out ?_; intro A' HO' HA')
                have HO2 : Hid (Own wr (w.heap.size + 2) 3 A' (cc - 1) (ints qq)) := Lib.hid (by simpa [ints] using HO')
                have Hr2 := Hr1
                have Hb2 := Lib.hid hb
                have Hbox2 := Lib.hid hbox
                clear HO' HA' hc0 hfr HO Hr1 Hlen hb hbox
                go_loopg [49, 8] 4 (fun g i qv ws => ∃ (s : Nat) (A : Option Addr) (cc : Nat), s ≤ 4 ∧ g = 4 - s ∧ i = .int .i64 s ∧ qv = .slice A (lbSlots M q xn s (pp, qq)).2.length cc ∧ Own ws (w.heap.size + 2) 3 A cc (ints (lbSlots M q xn s (pp, qq)).2) ∧ Below w.heap.size w ws ∧ Row ws w.heap.size 24 [.slice aS k cS, .slice aM M.length cM, .int .i64 L] ∧ Row ws (w.heap.size + 1) 3 (ints (lbSlots M q xn s (pp, qq)).1))
                case atStart => exact ⟨0, A', cc - 1, Nat.zero_le _, rfl, rfl, rfl, HO2.out, Hb2.out, Hbox2.out, Hr2.out⟩
                case round =>
                  obtain ⟨s, A, cd, hs4, rfl, rfl, rfl, hown, hb, hbox, hrow⟩ := hrel
                  clear HO2 Hr2 Hb2 Hbox2
                  have hl1 := lbSlots_len1 M q xn s (pp, qq)
                  have hl2 := (lbSlots_len2 M q xn s (pp, qq)).2
                  have hg := (lbQueue_fuel _ _ _ _ _ HQ2.out).1
                  have hl3 := (lbSlots_len2 M q xn 4 (pp, qq)).1
                  have hbl : (lbSlots M q xn s (pp, qq)).2.length ≤ 2000000 := by simp only [] at hl2 hl3; omega
                  have hrg := lbSlots_range M q xn s (pp, qq) k Hr.out (by simpa using hx1') hs4 (fun y hy => Hrng.out y hy)
                  generalize hst : lbSlots M q xn s (pp, qq) = st at *
                  have Hst := Lib.hid hst; clear hst
                  by_cases hlt : s < 4
                  · obtain ⟨bM, oM, rfl, hbM, hcM⟩ := HM.out.open (by rw [HL.out]; omega)
                    have hcm := hcM (4 * xn + s) (by rw [HL.out]; omega)
                    rw [← hb.cell (p := ⟨bM, oM + (4 * xn + s), none⟩) hbM] at hcm
                    obtain ⟨hm0, hm1⟩ := Hr.out (4 * xn + s) (by omega)
                    obtain ⟨m, hm⟩ := Int.eq_ofNat_of_zero_le hm0
                    rw [hm] at hcm hm1
                    have Hm := Lib.hid hm; clear hm hm0 hcM
                    have hm2 : m / 4 < k := by omega
                    have hML : 4 * (xn : Int) + (s : Int) < (M.length : Int) := by rw [HL.out]; omega
                    have hplen : st.1.length = k := by rw [hl1]; exact hpl
                    have hct := hrow.int (m / 4) (by omega)
                    have hft := hrow.frozen (m / 4)
                    have hbx := hbox.cell 1
                    have hws := hrow.lt
                    simp only [List.getElem?_cons_succ, List.getElem?_cons_zero] at hbx
                    have Hpl := Lib.hid hplen; clear hplen hl1 hl2 hl3 hg hpl hrg
                    have hto : (nth M (4 * ((xn : Nat) : Int).toNat + s) / 4).toNat = m / 4 := by rw [Int.toNat_natCast, Hm.out]; omega
                    have hto2 : nth M (4 * ((xn : Nat) : Int).toNat + s) / 4 = ((m : Int) / 4) := by rw [Int.toNat_natCast, Hm.out]
                    have Hto := Lib.hid hto; clear hto
                    have Hto2 := Lib.hid hto2; clear hto2
                    by_cases hneg : nth st.1 (m / 4) < 0
                    · have HV : Hid (lbVisit M q xn s st = (st.1.set (m / 4) q, st.2 ++ [(m : Int) / 4])) := by
                        show lbVisit M q xn s st = _
                        unfold lbVisit
                        rw [Hto.out, Hto2.out, if_pos hneg]
                      have HO := Lib.hid hown; clear hown
                      have HR1 := Lib.hid hrow; clear hrow
                      have HB := Lib.hid hb; clear hb
                      have HX := Lib.hid hbox; clear hbox
                      have HO4 : Hid (Own ((wr.setCell ⟨w.heap.size + 1, m / 4, none⟩ (.int .i64 q)).alloc (.cells #[.int .i64 ((m : Int) / 4)] 3)) (w.heap.size + 2) 3 A cd (ints st.2)) :=
                        Lib.hid ((HO.out.kept (fun x hx => Below.heap_setCell _ _ _ _ (by have := HO.out.lt hx; simp; omega))).alloc _)
                      have HC4 : Hid (((wr.setCell ⟨w.heap.size + 1, m / 4, none⟩ (.int .i64 q)).alloc (.cells #[.int .i64 ((m : Int) / 4)] 3)).cell? ⟨wr.heap.size, 0, none⟩ = some (.int .i64 ((m : Int) / 4))) := Lib.hid (by have := World.cell?_alloc_new (wr.setCell ⟨w.heap.size + 1, m / 4, none⟩ (.int .i64 q)) #[.int .i64 ((m : Int) / 4)] 3 0; simpa using this)
                      have HS4 : Hid (w.heap.size + 2 ≤ ((wr.setCell ⟨w.heap.size + 1, m / 4, none⟩ (.int .i64 q)).alloc (.cells #[.int .i64 ((m : Int) / 4)] 3)).heap.size) := Lib.hid (by simp; omega)
                      go_wp2_with (with_reducible refine wpList_append_one rfl (.tmp 70) (.tmp 72) 22 rfl (w.heap.size + 2) 3 i0 (.int .i64 0) 8 Tryd.underlying22 hi hz0 hz1 hz2 rfl A _ cd (ints st.2) rfl (ints_length _) HO4.out _ 1 (.int .i64 ((m : Int) / 4)) rfl HC4.out rfl (by omega) (by omega) HS4.out ?_; intro A2 c2 w2 hO2 hT2 hA2)
                      have hbl2 : Below (w.heap.size + 2) ((wr.setCell ⟨w.heap.size + 1, m / 4, none⟩ (.int .i64 q)).alloc (.cells #[.int .i64 ((m : Int) / 4)] 3)) w2 :=
                        hT2.below (by simp; omega) (fun x hx => (HO.out.lt hx).1)
                      go_roundg (4 - (s + 1))
                      case measure => omega
                      case rel =>
                        have e : lbSlots M q xn (s + 1) (pp, qq) = (st.1.set (m / 4) q, st.2 ++ [(m : Int) / 4]) := by rw [lbSlots, Hst.out, HV.out]
                        refine ⟨s + 1, A2, c2, by omega, rfl, by go_num, by rw [e]; simp, ?_, ?_, ?_, ?_⟩
                        · rw [e, ← ints_snoc]; exact hO2
                        · exact ((HB.out.setCell (by simp) _).alloc (by simp; omega) _).trans (hbl2.mono (by omega))
                        · exact ((HX.out.setOther ⟨w.heap.size + 1, m / 4, none⟩ (.int .i64 q) (by simp)).alloc (.cells #[.int .i64 ((m : Int) / 4)] 3)).later hbl2 (by omega)
                        · rw [e]; exact ((HR1.out.setInt (m / 4) q).alloc (.cells #[.int .i64 ((m : Int) / 4)] 3)).later hbl2 (by omega)
                    · have HV : Hid (lbVisit M q xn s st = st) := by
                        show lbVisit M q xn s st = _
                        unfold lbVisit
                        rw [Hto.out, if_neg hneg]
                      have HO := Lib.hid hown; clear hown
                      have HR1 := Lib.hid hrow; clear hrow
                      go_wp2
                      go_roundg (4 - (s + 1))
                      case measure => omega
                      case rel =>
                        have e : lbSlots M q xn (s + 1) (pp, qq) = st := by rw [lbSlots, Hst.out, HV.out]
                        exact ⟨s + 1, A, cd, by omega, rfl, by go_num, by rw [e], by rw [e]; exact HO.out, hb, hbox, by rw [e]; exact HR1.out⟩
                  · obtain rfl : s = 4 := by omega
                    have HR1 := Lib.hid hrow; clear hrow
                    have HO := Lib.hid hown; clear hown
                    go_wp2
                    go_roundg g1
                    case measure => omega
                    case rel =>
                      have e := HQ2.out
                      rw [Hst.out] at e
                      exact ⟨st.1, st.2, A, cd, rfl, HO.out, by rw [hl1]; exact hpl, hrg, e, by omega, hb, hbox, HR1.out⟩
        · obtain rfl : c = k := by omega
          rw [Nat.sub_self, lbOuter] at hout
          simp only [Option.some.injEq, Prod.mk.injEq] at hout
          obtain ⟨rfl, rfl⟩ := hout
          have Hrow := Lib.hid hrow; clear hrow
          have HE : ∃ a cc, Ending.returned (.tuple #[.slice (some ⟨w.heap.size + 1, 0, none⟩) p.length p.length, .int .i64 q]) = Ending.returned (.tuple #[.slice a p.length cc, .int .i64 q]) ∧ Below w.heap.size w wr ∧ Own wr w.heap.size 3 a cc (ints p) :=
            ⟨some ⟨w.heap.size + 1, 0, none⟩, p.length, rfl, hb, ints_length p ▸ Hrow.out.own (by omega)⟩
          go_wp2
          go_ret2
          rw [hpl] at HE
          simpa [hpl] using HE
end Go.Proofs.YtmhhjchnjaefhaaDoor


namespace Go.Proofs.YtmhhjchnjaefhaaDoor
open Go Go.RowKit
set_option maxHeartbeats 1000000 in
theorem outgoing_any (S M : List Int) (L : Int) (aS aM : Option Addr) (cS cM : Nat) (h : Nat) (w : World) (hh : h < 4 * S.length) (hb : S.length ≤ 1000000) (hS : IntsAt w aS S) :
    Calls Tryd.prog 48 #[.agg #[.slice aS S.length cS, .slice aM M.length cM, .int .i64 L], .int .i64 (h : Int)] w fun e w' => e = .returned (.bool (outB S h)) ∧ Below w.heap.size w w' := by
  obtain ⟨b, off, rfl, hbl, hc⟩ := hS.open (by omega)
  have hc1 := hc (h / 4) (by omega)
  have hlt : (h : Int) / 4 < (S.length : Int) := by omega
  clear hc hS
  have hB : ∀ o, Below w.heap.size w (w.alloc o) := fun o => (Below.refl _ _).alloc (Nat.le_refl _) o
  rcases (show h % 4 = 0 ∨ h % 4 = 1 ∨ h % 4 = 2 ∨ h % 4 = 3 by omega) with e | e | e | e
  · have hv := outB_0 S h e
    have e' : ((h : Int) % 4) = 0 := by omega
    clear e
    have t1 : (((h : Int) % 4) == 1) = false := by rw [e']; rfl
    have t2 : (((h : Int) % 4) == 2) = false := by rw [e']; rfl
    have t3 : (((h : Int) % 4) == 3) = false := by rw [e']; rfl
    clear e'
    go_enter Tryd.func48, Tryd.ntmps48
    go_wp2
    go_ret
    exact ⟨ret_bool hv.symm, hB _⟩
  · have hv := Lib.hid (outB_1 S h e)
    have e' : ((h : Int) % 4) = 1 := by omega
    clear e
    have t1 : (((h : Int) % 4) == 1) = true := by rw [e']; rfl
    clear e'
    go_enter Tryd.func48, Tryd.ntmps48
    go_wp2
    go_ret
    exact ⟨ret_bool hv.out.symm, hB _⟩
  · have hv := outB_2 S h e
    have e' : ((h : Int) % 4) = 2 := by omega
    clear e
    have t1 : (((h : Int) % 4) == 1) = false := by rw [e']; rfl
    have t2 : (((h : Int) % 4) == 2) = true := by rw [e']; rfl
    clear e'
    go_enter Tryd.func48, Tryd.ntmps48
    go_wp2
    go_ret
    exact ⟨ret_bool hv.symm, hB _⟩
  · have hv := Lib.hid (outB_3 S h e)
    have e' : ((h : Int) % 4) = 3 := by omega
    clear e
    have t1 : (((h : Int) % 4) == 1) = false := by rw [e']; rfl
    have t2 : (((h : Int) % 4) == 2) = false := by rw [e']; rfl
    have t3 : (((h : Int) % 4) == 3) = true := by rw [e']; rfl
    clear e'
    go_enter Tryd.func48, Tryd.ntmps48
    go_wp2
    go_ret
    exact ⟨ret_bool hv.out.symm, hB _⟩
theorem turn_any (h : Nat) (b : Int) (w : World) (h1 : h ≤ 1000000000) (b0 : -8 ≤ b) (b1 : b ≤ 8) :
    Calls Tryd.prog 60 #[.int .i64 (h : Int), .int .i64 b] w fun e w' => e = .returned (.int .i64 ((tn h b : Nat) : Int)) ∧ w = w' := by
  obtain ⟨t0, t1, hd⟩ := tmod_four b b0 b1
  have e := Lib.hid (turn_num h b _ b0 t0 t1 hd)
  clear hd
  go_enter Tryd.func60, Tryd.ntmps60
  go_wp2
  go_ret
  exact ⟨ret_int (by simpa using e.out), rfl⟩
theorem opposite_any (h : Nat) (w : World) (h1 : h ≤ 1000000000) :
    Calls Tryd.prog 64 #[.int .i64 (h : Int)] w fun e w' => e = .returned (.int .i64 ((tn h 2 : Nat) : Int)) ∧ w = w' := by
  go_enter Tryd.func64, Tryd.ntmps64
  go_wp2_with (go_at_call 60; refine (turn_any _ _ _ h1 (by omega) (by omega)).mono ?_; rintro e w' ⟨rfl, rfl⟩)
  go_ret
  exact ⟨rfl, rfl⟩
end Go.Proofs.YtmhhjchnjaefhaaDoor


namespace Go.Proofs.YtmhhjchnjaefhaaDoor
open Go Go.RowKit
/-- A function value that, in every world behind w, takes each number below N to f of it, and leaves the old blocks alone. -/
def NatFn (w : World) (F : FuncId) (cap : Array Value) (N : Nat) (f : Nat → Nat) : Prop :=
  ∀ (W : World) (x : Nat), Below w.heap.size w W → x < N → Calls Tryd.prog F (#[.int .i64 (x : Int)] ++ cap) W fun e w' => e = .returned (.int .i64 ((f x : Nat) : Int)) ∧ Below W.heap.size W w'
set_option maxRecDepth 100000 in
set_option maxHeartbeats 1000000 in
theorem cycle_any (F : FuncId) (cap : Array Value) (N : Nat) (f : Nat → Nat) (w : World) (s p : Nat) (hcall : ∀ args W, (callFunc F args).run Tryd.prog W = .ok (.enter F args) W)
    (hnx : NatFn w F cap N f) (hf : ∀ x, x < N → f x < N) (hs : s < N) (hp : IsPer f s p) (hpb : p ≤ 1000000) :
    Calls Tryd.prog 74 #[.int .i64 (s : Int), .func (.func F) #[] cap] w fun e w' => ∃ a c, e = .returned (.slice a p c) ∧ Below w.heap.size w w' ∧ Own w' w.heap.size 3 a c (ints (nats (orb f s p))) := by
  obtain ⟨i0, hi, hz0, hz1, hz2⟩ := info_parts Tryd.info3
  have Hf := Lib.hid hf; clear hf
  have Hp := Lib.hid hp; clear hp
  have Hnx := Lib.hid hnx; clear hnx
  go_enter Tryd.func74, Tryd.ntmps74
  go_wp2_with fail
  refine (Hnx.out _ s ((Below.refl _ _).alloc (Nat.le_refl _) _) hs).mono ?_
  rintro e w1 ⟨rfl, hb1⟩
  go_wp2_with fail
  go_loopg [6, 5] (p - 1) (fun g hv lv wr => ∃ (k : Nat) (A : Option Addr) (c : Nat), 0 < k ∧ k ≤ p ∧ g = p - k ∧ hv = .int .i64 ((iter f k s : Nat) : Int) ∧ lv = .slice A k c ∧ Own wr w.heap.size 3 A c (ints (nats (orb f s k))) ∧ Below w.heap.size w wr)
  case atStart =>
    refine ⟨1, some ⟨w.heap.size, 0, none⟩, 1, by omega, Hp.out.1, rfl, rfl, rfl, ?_, ?_⟩
    · have h1 := (Own.made (w := w) (B := w.heap.size) (E := 3) #[Value.int .i64 (s : Int)] (Nat.le_refl _)).later hb1 (Nat.le_refl _)
      simpa [ints, nats, orb, iter] using h1
    · exact below_of ((Below.refl _ _).alloc (Nat.le_refl _) _) hb1 (by simp)
  case round =>
    obtain ⟨k, A, c, hk0, hkp, rfl, rfl, rfl, hown, hb⟩ := hrel
    clear hb1
    have hsz := hb.size
    by_cases hlt : k < p
    · have hne := Hp.out.2.2 k hk0 hlt
      have hx := iter_lt f N Hf.out k s hs
      have ht : (((iter f k s : Nat) : Int) != (s : Int)) = true := by simp; omega
      have Hown := Lib.hid hown; clear hown
      have Hne := Lib.hid hne; clear hne
      have hlen : (ints (nats (orb f s k))).length = k := by rw [ints_length, nats_length, orb_length]
      have Hlen := Lib.hid hlen; clear hlen
      have Hsn : Hid (ints (nats (orb f s k)) ++ [.int .i64 ((iter f k s : Nat) : Int)] = ints (nats (orb f s (k + 1)))) := Lib.hid (by rw [ints_snoc, nats_snoc, orb_succ])
      have Hcell : Hid ((wr.alloc (.cells #[.int .i64 ((iter f k s : Nat) : Int)] 3)).cell? ⟨wr.heap.size, 0, none⟩ = some (.int .i64 ((iter f k s : Nat) : Int))) := Lib.hid (by simp)
      have Hit : Hid (iter f (k + 1) s = f (iter f k s)) := Lib.hid (iter_succ f k s)
      generalize iter f k s = x at *
      go_wp2_with (with_reducible refine wpList_append_one rfl (.tmp 18) (.tmp 20) 22 rfl w.heap.size 3 i0 (.int .i64 0) 8 Tryd.underlying22 hi hz0 hz1 hz2 rfl A k c _ rfl Hlen.out (Hown.out.alloc _) _ 1 (.int .i64 (x : Int)) rfl Hcell.out rfl (by omega) (by omega) (by simp; omega) ?_; intro A2 c2 w2 hO2 hT2 hA2)
      have hb2 : Below w.heap.size w w2 := (hb.alloc hsz _).trans (hT2.below (by simp; omega) (fun y hy => (Hown.out.lt hy).1))
      refine (Hnx.out _ x hb2 hx).mono ?_
      rintro e w3 ⟨rfl, hb3⟩
      go_wp2_with fail
      go_roundg (p - (k + 1))
      case measure => omega
      case rel =>
        refine ⟨k + 1, A2, c2, by omega, by omega, rfl, by rw [Hit.out], rfl, ?_, below_of hb2 hb3 (by have := hb2.size; omega)⟩
        rw [← Hsn.out]
        exact hO2.later hb3 (Nat.le_refl _)
    · obtain rfl : k = p := by omega
      have he := Hp.out.2.1
      have ht : (((iter f k s : Nat) : Int) != (s : Int)) = false := by rw [he]; simp
      have Hown := Lib.hid hown; clear hown he
      go_wp2_with fail
      go_ret
      exact ⟨A, c, rfl, hb, Hown.out⟩
theorem NatFn.later {w W : World} {F : FuncId} {cap : Array Value} {N : Nat} {f : Nat → Nat} (h : NatFn w F cap N f) (hb : Below w.heap.size w W) : NatFn W F cap N f :=
  fun W' x hb' hx => h W' x (below_step hb hb') hx
/-- A function value that, in every world behind w, says wb x of each number below N, and leaves the old blocks alone. -/
def BoolFn (w : World) (F : FuncId) (cap : Array Value) (N : Nat) (wb : Nat → Bool) : Prop :=
  ∀ (W : World) (x : Nat), Below w.heap.size w W → x < N → Calls Tryd.prog F (#[.int .i64 (x : Int)] ++ cap) W fun e w' => e = .returned (.bool (wb x)) ∧ Below W.heap.size W w'
theorem Tryd.info22 : (Tryd.prog.info? 22).map (fun i => (i.zero, i.size, i.bytes)) = some (some (.slice none 0 0), 1, 24) := by kernel_rfl
theorem Tryd.info4 : (Tryd.prog.info? 4).map (fun i => (i.zero, i.size, i.bytes)) = some (some (.bool false), 1, 1) := by kernel_rfl
set_option maxRecDepth 100000 in
set_option maxHeartbeats 2000000 in
theorem cycles_any (F G : FuncId) (capF capG : Array Value) (N : Nat) (f per : Nat → Nat) (wb : Nat → Bool) (w : World) (hN : N ≤ 1000000)
    (hcF : ∀ args W, (callFunc F args).run Tryd.prog W = .ok (.enter F args) W) (hcG : ∀ args W, (callFunc G args).run Tryd.prog W = .ok (.enter G args) W)
    (hnx : NatFn w F capF N f) (hwb : BoolFn w G capG N wb) (hf : ∀ x, x < N → f x < N) (hp : ∀ x, x < N → IsPer f x (per x)) (hpb : ∀ x, x < N → per x ≤ 1000000) :
    Calls Tryd.prog 58 #[.int .i64 (N : Int), .func (.func G) #[] capG, .func (.func F) #[] capF] w fun e w' => ∃ a c, e = .returned (.slice a (cycs f per wb N).length c) ∧ Below w.heap.size w w' ∧ OwnRows w' w.heap.size a c ((cycs f per wb N).map nats) := by
  obtain ⟨i0, hi, hz0, hz1, hz2⟩ := info_parts Tryd.info4
  obtain ⟨i1, hi1, hy0, hy1, hy2⟩ := info_parts Tryd.info22
  have Hf := Lib.hid hf; clear hf
  have Hp := Lib.hid hp; clear hp
  have Hpb := Lib.hid hpb; clear hpb
  have Hnx := Lib.hid hnx; clear hnx
  have Hwb := Lib.hid hwb; clear hwb
  have HcF := Lib.hid hcF; clear hcF
  go_enter Tryd.func58, Tryd.ntmps58
  go_wp2_with (with_reducible refine wpList_make_one rfl (.tmp 13) 77 rfl 4 i0 (.bool false) 1 Tryd.underlying77 hi hz0 hz1 hz2 rfl .i64 _ N rfl rfl (by omega) (by omega) ?_)
  go_loopg [16, 7] N (fun g i av wr => ∃ (k : Nat) (A : Option Addr) (c : Nat), k ≤ N ∧ g = N - k ∧ i = .int .i64 k ∧ av = .slice A (cyTo f per wb N k).2.length c ∧ OwnRows wr (w.heap.size + 1) A c ((cyTo f per wb N k).2.map nats) ∧ Row wr w.heap.size 4 (bools (cyTo f per wb N k).1) ∧ Below w.heap.size w wr)
  case atStart =>
    refine ⟨0, none, 0, Nat.zero_le _, rfl, rfl, rfl, OwnRows.nil _ _, ?_, (Below.refl _ _).alloc (Nat.le_refl _) _⟩
    have := Row.new w (Array.replicate N (Value.bool false)) 4
    simpa [bools, cyTo] using this
  case round =>
    obtain ⟨k, A, c, hk, rfl, rfl, rfl, hown, hrow, hb⟩ := hrel
    have hl1 := cyTo_len1 f per wb N k
    have hl2 := cyTo_len2 f per wb N k
    have hsz := hrow.lt
    generalize hst : cyTo f per wb N k = st at *
    have Hst := Lib.hid hst; clear hst
    by_cases hlt : k < N
    · have hc := hrow.bool k (by omega)
      by_cases hseen : bth st.1 k = true
      · have HE : Hid (cyTo f per wb N (k + 1) = st) := Lib.hid (by rw [cyTo, Hst.out, cyRound, if_pos hseen])
        rw [hseen] at hc
        have Hown := Lib.hid hown; clear hown
        have Hrow := Lib.hid hrow; clear hrow hseen
        go_wp2_with fail
        go_roundg (N - (k + 1))
        case measure => omega
        case rel => exact ⟨k + 1, A, c, by omega, rfl, by go_num, by rw [HE.out], by rw [HE.out]; exact Hown.out, by rw [HE.out]; exact Hrow.out, hb⟩
      · have hs2 : bth st.1 k = false := by simpa using hseen
        rw [hs2] at hc
        have Hown := Lib.hid hown; clear hown
        have Hrow := Lib.hid hrow; clear hrow
        by_cases hw : wb k = true
        · have HE : Hid (cyTo f per wb N (k + 1) = (markL (orb f k (per k)) st.1, st.2 ++ [orb f k (per k)])) := Lib.hid (by rw [cyTo, Hst.out, cyRound, if_neg hseen, if_pos hw])
          have hper := Hp.out k hlt
          have hpb := Hpb.out k hlt
          clear hseen hs2
          go_wp2_with fail
          refine (Hwb.out _ k hb hlt).mono ?_
          rintro e w1 ⟨rfl, hb1⟩
          rw [hw]
          clear hw
          have hb1' := below_step hb hb1
          go_wp2_with fail
          refine (cycle_any F capF N f w1 k (per k) HcF.out (Hnx.out.later hb1') Hf.out hlt hper hpb).mono ?_
          rintro e w2 ⟨A2, c2, rfl, hb2, hO2⟩
          have hb2' := below_step hb1' hb2
          have Hrow2 := Lib.hid ((Hrow.out.later hb1 hsz).later hb2 (by have := hb1.size; omega))
          have Hown2 := Lib.hid ((Hown.out.later hb1 (Nat.le_refl _)).later hb2 (Nat.le_refl _))
          have HO2 := Lib.hid (hO2.mono (B' := w.heap.size + 1) (by have := hb1.size; omega)); clear hO2 Hrow Hown
          have hz3 := hb1.size
          have hz4 := hb2.size
          clear hb hb1 hb1' hc
          go_wp2_with fail
          go_loopg [34] (per k) (fun g i wi => ∃ j : Nat, j ≤ per k ∧ g = per k - j ∧ i = .int .i64 j ∧ Own wi (w.heap.size + 1) 3 A2 c2 (ints (nats (orb f k (per k)))) ∧ OwnRows wi (w.heap.size + 1) A c (st.2.map nats) ∧ Row wi w.heap.size 4 (bools (markL (orb f k j) st.1)) ∧ Below w.heap.size w wi)
          case atStart => exact ⟨0, Nat.zero_le _, rfl, rfl, HO2.out, Hown2.out, Hrow2.out, hb2'⟩
          case round =>
            clear hb2' Hrow2 Hown2 HO2 hb2
            obtain ⟨j, hj, rfl, rfl, hO, hR, hrow, hb⟩ := hrel
            have hlen : (orb f k (per k)).length = per k := orb_length _ _ _
            by_cases hjl : j < per k
            · obtain ⟨b, off, rfl, hB, hbl, hcell, _⟩ := hO.open (by rw [ints_length, nats_length, hlen]; omega)
              have hcj := hcell j _ (ints_get _ _ (by rw [nats_length, hlen]; exact hjl))
              rw [nth_nats _ _ (by rw [hlen]; exact hjl), orb_getD _ _ _ _ hjl] at hcj
              have hx := iter_lt f N Hf.out j k hlt
              have Hm : Hid (markL (orb f k (j + 1)) st.1 = (markL (orb f k j) st.1).set (iter f j k) true) := Lib.hid (by rw [orb_succ, markL_snoc])
              generalize iter f j k = x at *
              have hcx := hrow.bool x (by rw [markL_length]; omega)
              have hfx := hrow.frozen x
              have HO := Lib.hid (hO.setOther hrow (by decide) x (.bool true))
              have HR := Lib.hid (hR.setOther hrow (by decide) (by decide) x (.bool true))
              have Hrow := Lib.hid (hrow.setBool x true)
              clear hO hR hrow hcell hlen
              go_wp2_with fail
              go_roundg (per k - (j + 1))
              case measure => omega
              case rel => exact ⟨j + 1, by omega, rfl, by go_num, HO.out, HR.out, by rw [Hm.out]; exact Hrow.out, hb.setCell (by simp) _⟩
            · obtain rfl : j = per k := by omega
              obtain ⟨vs, hvs, hro⟩ := hR
              have hvl := hro.1
              simp only [List.length_map] at hvl
              have hs3 : (nats (orb f k (per k))).length = per k := by rw [nats_length, hlen]
              have hsn := hro.snoc hO
              rw [hs3] at hsn
              have Hvs := Lib.hid hvs
              have Hsn := Lib.hid hsn; clear hsn hro hvs hs3 hlen
              have Hrow := Lib.hid hrow
              have hsz2 := hrow.lt
              clear hrow hO
              go_wp2_with (with_reducible refine wpList_append_one rfl (.tmp 42) (.tmp 44) 41 rfl (w.heap.size + 1) 22 i1 (.slice none 0 0) 24 Tryd.underlying41 hi1 hy0 hy1 hy2 rfl A _ c vs rfl hvl (Hvs.out.alloc _) _ 1 (.slice A2 (per k) c2) rfl (by simp) rfl (by omega) (by omega) (by simp; omega) ?_; intro A3 c3 w3 hO3 hT3 hA3)
              have hb3 : Below w.heap.size w w3 := (hb.alloc (by omega) _).trans (hT3.below (by simp; omega) (fun y hy => Nat.le_of_succ_le (Hvs.out.lt hy).1))
              go_roundg (N - (k + 1))
              case measure => omega
              case rel =>
                refine ⟨k + 1, A3, c3, by omega, rfl, by go_num, by rw [HE.out]; simp, ?_, ?_, hb3⟩
                · rw [HE.out]
                  refine ⟨_, hO3, ?_⟩
                  rw [List.map_append]
                  exact (Hsn.out.alloc _).turned (Hvs.out.alloc _) (by decide) hT3
                · rw [HE.out]
                  exact (Hrow.out.alloc _).turnedT (Hvs.out.alloc _) (by decide) hT3
        · have hw2 : wb k = false := by simpa using hw
          have HE : Hid (cyTo f per wb N (k + 1) = st) := Lib.hid (by rw [cyTo, Hst.out, cyRound, if_neg hseen, if_neg hw])
          clear hseen hs2
          go_wp2_with fail
          refine (Hwb.out _ k hb hlt).mono ?_
          rintro e w1 ⟨rfl, hb1⟩
          rw [hw2]
          clear hw hw2
          have hb1' := below_step hb hb1
          go_wp2_with fail
          go_roundg (N - (k + 1))
          case measure => omega
          case rel => exact ⟨k + 1, A, c, by omega, rfl, by go_num, by rw [HE.out], by rw [HE.out]; exact Hown.out.later hb1 (Nat.le_refl _), by rw [HE.out]; exact Hrow.out.later hb1 hsz, hb1'⟩
    · obtain rfl : k = N := by omega
      have hfin : (cycs f per wb k) = st.2 := by rw [cycs, Hst.out]
      have Hfin := Lib.hid hfin; clear hfin
      have Hown := Lib.hid hown; clear hown
      have Hrow := Lib.hid hrow; clear hrow
      go_wp2_with fail
      go_ret
      rw [Hfin.out]
      exact ⟨A, c, rfl, hb, Hown.out.mono (by omega)⟩
end Go.Proofs.YtmhhjchnjaefhaaDoor


