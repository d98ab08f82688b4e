/- The walk of diagram.label: it returns what lbOuter says, in new memory. The walks of diagram.outgoing, Turn, Opposite and of the reference's Turn, Out. The walks of diagram.cycle and cycles. The walk of diagram.spherical. A region that draws its order, whose operations read and whose callees leave the old blocks alone: one walk of the text's order, in a class of worlds. -/
import Derived.Test.YtmhhjchnjaefhaaDoorProg
import Derived.WalkKit
import Derived.WalkSpells
import Derived.WalkLawsBesides
import Derived.Deep.AppendSrc
import Derived.Deep.LoopGhost
import Derived.Deep.QuietTactic
import Derived.Deep.RegionWith
import Derived.Deep.DeepMust
import Derived.Deep.DeepFit
import Derived.BigQuiet
import Derived.Lib.Hide
import Derived.Outline
import Derived.Test.YtmhhjchnjaefhaaDoorFaAa
import Derived.Test.YtmhhjchnjaefhaaDoorFaAc
namespace Go.Proofs.YtmhhjchnjaefhaaDoor
open Go Go.RowKit
theorem Tryd.info3 : (Tryd.prog.info? 3).map (fun i => (i.zero, i.size, i.bytes)) = some (some (.int .i64 0), 1, 8) := by kernel_rfl
set_option maxRecDepth 100000 in
set_option maxHeartbeats 4000000 in
theorem label_any (S M : List Int) (L : Int) (aS aM : Option Addr) (cS cM : Nat) (w : World) (fuel : Nat) (part : List Int) (parts : Int)
    (hS : S.length ≤ 1000) (hfu : fuel ≤ 1000000) (hl : M.length = 4 * S.length) (hM : IntsAt w aM M) (hr : ∀ i, i < 4 * S.length → 0 ≤ nth M i ∧ nth M i < 4 * (S.length : Int))
    (hres : lbOuter M fuel S.length 0 (List.replicate S.length (-1), 0) = some (part, parts)) :
    Calls Tryd.prog 61 #[.agg #[.slice aS S.length cS, .slice aM M.length cM, .int .i64 L]] w fun e w' => ∃ a c, e = .returned (.tuple #[.slice a part.length c, .int .i64 parts]) ∧ Below w.heap.size w w' ∧ Own w' w.heap.size 3 a c (ints part) := by
  obtain ⟨i0, hi, hz0, hz1, hz2⟩ := info_parts Tryd.info3
  have HL := Lib.hid hl; clear hl
  have HR := Lib.hid hres; clear hres
  have HM := Lib.hid hM; clear hM
  have Hr := Lib.hid hr; clear hr
  generalize hn : S.length = n at *
  have Hn := Lib.hid hn; clear hn
  go_enter Tryd.func61, Tryd.ntmps61
  go_wp2_with (refine wpList_make_one rfl (.tmp 14) 22 rfl 3 i0 (.int .i64 0) 8 Tryd.underlying22 hi hz0 hz1 hz2 rfl .i64 _ n rfl rfl (by omega) (by omega) ?_)
  go_loopg [18] n (fun g i wr => ∃ k : Nat, k ≤ n ∧ g = n - k ∧ i = .int .i64 k ∧ Below w.heap.size w wr ∧ Row wr w.heap.size 24 [.slice aS n cS, .slice aM M.length cM, .int .i64 L] ∧ Row wr (w.heap.size + 1) 3 (ints (List.replicate k (-1) ++ List.replicate (n - k) 0)))
  case atStart =>
    refine ⟨0, Nat.zero_le _, rfl, rfl, ?_, ?_, ?_⟩
    · exact ((Below.refl _ _).alloc (Nat.le_refl _) _).alloc (by simp) _
    · exact (Row.new w #[_, _, _] 24).alloc _
    · have := Row.new (w.alloc (.cells #[Value.slice aS n cS, Value.slice aM M.length cM, Value.int IntKind.i64 L] 24)) (Array.replicate n (Value.int .i64 0)) 3
      simpa [ints] using this
  case round =>
    obtain ⟨k, hk, rfl, rfl, hb, hbox, hrow⟩ := hrel
    have hlen : (List.replicate k (-1) ++ List.replicate (n - k) (0 : Int)).length = n := by simp; omega
    by_cases hlt : k < n
    · have hc := hrow.int k (by omega)
      have hf := hrow.frozen k
      have hnew := hrow.setInt k (-1)
      have Hnew : Hid (Row (wr.setCell ⟨w.heap.size + 1, k, none⟩ (.int .i64 (-1))) (w.heap.size + 1) 3 (ints (List.replicate (k + 1) (-1) ++ List.replicate (n - (k + 1)) 0))) := by
        have : (List.replicate k (-1) ++ List.replicate (n - k) (0 : Int)).set k (-1) = List.replicate (k + 1) (-1) ++ List.replicate (n - (k + 1)) 0 := by
          rw [List.set_append_right (h := by simp), show n - k = (n - (k+1)) + 1 from by omega, List.replicate_succ, List.replicate_succ']
          simp
        rw [this] at hnew; exact hnew
      have Hbox := Lib.hid (hbox.setOther ⟨w.heap.size + 1, k, none⟩ (.int .i64 (-1)) (by simp))
      clear hnew hlen hrow hbox
      go_wp2
      go_roundg (n - (k + 1))
      case measure => omega
      case rel => exact ⟨k + 1, by omega, rfl, by go_num, hb.setCell (by simp) _, Hbox, Hnew⟩
    · obtain rfl : k = n := by omega
      rw [Nat.sub_self, List.replicate_zero, List.append_nil] at hrow
      clear hlen
      go_wp2
      go_loopg [6, 27] k (fun g ps i wo => ∃ (c : Nat) (p : List Int) (q : Int), c ≤ k ∧ g = k - c ∧ i = .int .i64 c ∧ ps = .int .i64 q ∧ 0 ≤ q ∧ q ≤ c ∧ p.length = k ∧ lbOuter M fuel (k - c) c (p, q) = some (part, parts) ∧ Below w.heap.size w wo ∧ Row wo w.heap.size 24 [.slice aS k cS, .slice aM M.length cM, .int .i64 L] ∧ Row wo (w.heap.size + 1) 3 (ints p))
      case atStart => exact ⟨0, List.replicate k (-1), 0, Nat.zero_le _, rfl, rfl, rfl, by omega, by omega, by simp, HR.out, hb, hbox, hrow⟩
      case round =>
        clear hb hbox hrow hlt
        obtain ⟨c, p, q, hck, rfl, rfl, rfl, hq0, hq1, hpl, hout, hb, hbox, hrow⟩ := hrel
        by_cases hlt : c < k
        · rw [show k - c = (k - (c + 1)) + 1 from by omega, lbOuter] at hout
          obtain ⟨st1, hround, hrest⟩ := Option.bind_eq_some_iff.1 hout
          clear hout
          have HRest := Lib.hid hrest; clear hrest
          have hc := hrow.int c (by omega)
          unfold lbRound at hround
          by_cases hneg : 0 ≤ nth p c
          · rw [if_pos hneg] at hround
            simp only [Option.some.injEq] at hround
            have HRd := Lib.hid hround; clear hround
            have Hrow := Lib.hid hrow; clear hrow
            go_wp2
            go_roundg (k - (c + 1))
            case measure => omega
            case rel =>
              have e := HRd.out
              subst e
              exact ⟨c + 1, p, q, by omega, rfl, by go_num, rfl, hq0, by omega, hpl, HRest.out, hb, hbox, Hrow.out⟩
          · rw [if_neg hneg] at hround
            obtain ⟨p', hq', he⟩ := Option.map_eq_some_iff.1 hround
            clear hround
            have HQ := Lib.hid hq'; clear hq'
            have HE := Lib.hid he; clear he
            have hf := hrow.frozen c
            have hs := hrow.lt
            have Hp := Lib.hid hpl; clear hpl
            go_wp2
            go_loopg [8] fuel (fun g qv wi => ∃ (pp qq : List Int) (A : Option Addr) (cc : Nat), qv = .slice A qq.length cc ∧ Own wi (w.heap.size + 2) 3 A cc (ints qq) ∧ pp.length = k ∧ (∀ y ∈ qq, 0 ≤ y ∧ y < (k : Int)) ∧ lbQueue M q g (pp, qq) = some p' ∧ g ≤ fuel ∧ Below w.heap.size w wi ∧ Row wi w.heap.size 24 [.slice aS k cS, .slice aM M.length cM, .int .i64 L] ∧ Row wi (w.heap.size + 1) 3 (ints pp))
            case atStart =>
              refine ⟨p.set c q, [(c : Int)], some ⟨wr.heap.size, 0, none⟩, 1, rfl, ?_, ?_, ?_, HQ.out, Nat.le_refl _, ?_, ?_, ?_⟩
              · have := Own.made (w := wr.setCell ⟨w.heap.size + 1, c, none⟩ (.int .i64 q)) (B := w.heap.size + 2) (E := 3) #[Value.int .i64 c] (by simp; omega)
                simpa [ints] using this
              · simpa using Hp.out
              · intro y hy; simp at hy; subst hy; omega
              · exact (hb.setCell (by simp) _).alloc (by simp; omega) _
              · exact (hbox.setOther _ _ (by simp)).alloc _
              · exact (hrow.setInt c q).alloc _
            case round =>
              clear hc hf hs hb hbox hrow hneg
              obtain ⟨pp, qq, A, cc, rfl, hown, hpl, hrng, hlq, hgf, hb, hbox, hrow⟩ := hrel
              cases qq with
              | nil =>
                have HE2 : p' = pp := by cases gk <;> (simp only [lbQueue, Option.some.injEq] at hlq; exact hlq.symm)
                subst HE2
                clear hlq
                have HO := Lib.hid hown; clear hown
                have Hr1 := Lib.hid hrow; clear hrow
                go_wp2
                go_roundg (k - (c + 1))
                case measure => omega
                case rel =>
                  have e := HE.out
                  subst e
                  exact ⟨c + 1, p', q + 1, by omega, rfl, by go_num, rfl, by omega, by omega, hpl, HRest.out, hb, hbox, Hr1.out⟩
              | cons x qq =>
                obtain ⟨g1, rfl⟩ : ∃ g1, gk = g1 + 1 := by
                  cases gk with
                  | zero => simp [lbQueue] at hlq
                  | succ g1 => exact ⟨g1, rfl⟩
                rw [lbQueue] at hlq
                have hx := hrng x (by simp)
                obtain ⟨b, off, rfl, hB, hlt2, hcell, hfr⟩ := hown.open (by simp [ints])
                have hc0 := hcell 0 (.int .i64 x) (by simp [ints])
                clear hcell
                rw [Nat.add_zero] at hc0
                have HQ2 := Lib.hid hlq; clear hlq
                have HO := Lib.hid hown; clear hown
                have Hr1 := Lib.hid hrow; clear hrow
                have Hrng := Lib.hid (fun y hy => hrng y (List.mem_cons_of_mem _ hy)); clear hrng
                have hlen : (ints (x :: qq)).length = (x :: qq).length := ints_length _
                have Hlen := Lib.hid hlen; clear hlen
                obtain ⟨hx0, hx1⟩ := hx
                obtain ⟨xn, rfl⟩ := Int.eq_ofNat_of_zero_le hx0
                have hx1' : xn < k := by omega
                go_wp2_with (with_reducible refine wpList_tail rfl (.tmp 47) 22 3 i0 Tryd.underlying22 hi hz1 rfl (w.heap.size + 2) b off _ cc (ints ((xn : Int) :: qq)) rfl Hlen.out (by simp) HO.out ?_; intro A' HO' HA')
                have HO2 : Hid (Own wr (w.heap.size + 2) 3 A' (cc - 1) (ints qq)) := Lib.hid (by simpa [ints] using HO')
                have Hr2 := Hr1
                have Hb2 := Lib.hid hb
                have Hbox2 := Lib.hid hbox
                clear HO' HA' hc0 hfr HO Hr1 Hlen hb hbox
                go_loopg [49, 8] 4 (fun g i qv ws => ∃ (s : Nat) (A : Option Addr) (cc : Nat), s ≤ 4 ∧ g = 4 - s ∧ i = .int .i64 s ∧ qv = .slice A (lbSlots M q xn s (pp, qq)).2.length cc ∧ Own ws (w.heap.size + 2) 3 A cc (ints (lbSlots M q xn s (pp, qq)).2) ∧ Below w.heap.size w ws ∧ Row ws w.heap.size 24 [.slice aS k cS, .slice aM M.length cM, .int .i64 L] ∧ Row ws (w.heap.size + 1) 3 (ints (lbSlots M q xn s (pp, qq)).1))
                case atStart => exact ⟨0, A', cc - 1, Nat.zero_le _, rfl, rfl, rfl, HO2.out, Hb2.out, Hbox2.out, Hr2.out⟩
                case round =>
                  obtain ⟨s, A, cd, hs4, rfl, rfl, rfl, hown, hb, hbox, hrow⟩ := hrel
                  clear HO2 Hr2 Hb2 Hbox2
                  have hl1 := lbSlots_len1 M q xn s (pp, qq)
                  have hl2 := (lbSlots_len2 M q xn s (pp, qq)).2
                  have hg := (lbQueue_fuel _ _ _ _ _ HQ2.out).1
                  have hl3 := (lbSlots_len2 M q xn 4 (pp, qq)).1
                  have hbl : (lbSlots M q xn s (pp, qq)).2.length ≤ 2000000 := by simp only [] at hl2 hl3; omega
                  have hrg := lbSlots_range M q xn s (pp, qq) k Hr.out (by simpa using hx1') hs4 (fun y hy => Hrng.out y hy)
                  generalize hst : lbSlots M q xn s (pp, qq) = st at *
                  have Hst := Lib.hid hst; clear hst
                  by_cases hlt : s < 4
                  · obtain ⟨bM, oM, rfl, hbM, hcM⟩ := HM.out.open (by rw [HL.out]; omega)
                    have hcm := hcM (4 * xn + s) (by rw [HL.out]; omega)
                    rw [← hb.cell (p := ⟨bM, oM + (4 * xn + s), none⟩) hbM] at hcm
                    obtain ⟨hm0, hm1⟩ := Hr.out (4 * xn + s) (by omega)
                    obtain ⟨m, hm⟩ := Int.eq_ofNat_of_zero_le hm0
                    rw [hm] at hcm hm1
                    have Hm := Lib.hid hm; clear hm hm0 hcM
                    have hm2 : m / 4 < k := by omega
                    have hML : 4 * (xn : Int) + (s : Int) < (M.length : Int) := by rw [HL.out]; omega
                    have hplen : st.1.length = k := by rw [hl1]; exact hpl
                    have hct := hrow.int (m / 4) (by omega)
                    have hft := hrow.frozen (m / 4)
                    have hbx := hbox.cell 1
                    have hws := hrow.lt
                    simp only [List.getElem?_cons_succ, List.getElem?_cons_zero] at hbx
                    have Hpl := Lib.hid hplen; clear hplen hl1 hl2 hl3 hg hpl hrg
                    have hto : (nth M (4 * ((xn : Nat) : Int).toNat + s) / 4).toNat = m / 4 := by rw [Int.toNat_natCast, Hm.out]; omega
                    have hto2 : nth M (4 * ((xn : Nat) : Int).toNat + s) / 4 = ((m : Int) / 4) := by rw [Int.toNat_natCast, Hm.out]
                    have Hto := Lib.hid hto; clear hto
                    have Hto2 := Lib.hid hto2; clear hto2
                    by_cases hneg : nth st.1 (m / 4) < 0
                    · have HV : Hid (lbVisit M q xn s st = (st.1.set (m / 4) q, st.2 ++ [(m : Int) / 4])) := by
                        show lbVisit M q xn s st = _
                        unfold lbVisit
                        rw [Hto.out, Hto2.out, if_pos hneg]
                      have HO := Lib.hid hown; clear hown
                      have HR1 := Lib.hid hrow; clear hrow
                      have HB := Lib.hid hb; clear hb
                      have HX := Lib.hid hbox; clear hbox
                      have HO4 : Hid (Own ((wr.setCell ⟨w.heap.size + 1, m / 4, none⟩ (.int .i64 q)).alloc (.cells #[.int .i64 ((m : Int) / 4)] 3)) (w.heap.size + 2) 3 A cd (ints st.2)) :=
                        Lib.hid ((HO.out.kept (fun x hx => Below.heap_setCell _ _ _ _ (by have := HO.out.lt hx; simp; omega))).alloc _)
                      have HC4 : Hid (((wr.setCell ⟨w.heap.size + 1, m / 4, none⟩ (.int .i64 q)).alloc (.cells #[.int .i64 ((m : Int) / 4)] 3)).cell? ⟨wr.heap.size, 0, none⟩ = some (.int .i64 ((m : Int) / 4))) := Lib.hid (by have := World.cell?_alloc_new (wr.setCell ⟨w.heap.size + 1, m / 4, none⟩ (.int .i64 q)) #[.int .i64 ((m : Int) / 4)] 3 0; simpa using this)
                      have HS4 : Hid (w.heap.size + 2 ≤ ((wr.setCell ⟨w.heap.size + 1, m / 4, none⟩ (.int .i64 q)).alloc (.cells #[.int .i64 ((m : Int) / 4)] 3)).heap.size) := Lib.hid (by simp; omega)
                      go_wp2_with (with_reducible refine wpList_append_one rfl (.tmp 70) (.tmp 72) 22 rfl (w.heap.size + 2) 3 i0 (.int .i64 0) 8 Tryd.underlying22 hi hz0 hz1 hz2 rfl A _ cd (ints st.2) rfl (ints_length _) HO4.out _ 1 (.int .i64 ((m : Int) / 4)) rfl HC4.out rfl (by omega) (by omega) HS4.out ?_; intro A2 c2 w2 hO2 hT2 hA2)
                      have hbl2 : Below (w.heap.size + 2) ((wr.setCell ⟨w.heap.size + 1, m / 4, none⟩ (.int .i64 q)).alloc (.cells #[.int .i64 ((m : Int) / 4)] 3)) w2 :=
                        hT2.below (by simp; omega) (fun x hx => (HO.out.lt hx).1)
                      go_roundg (4 - (s + 1))
                      case measure => omega
                      case rel =>
                        have e : lbSlots M q xn (s + 1) (pp, qq) = (st.1.set (m / 4) q, st.2 ++ [(m : Int) / 4]) := by rw [lbSlots, Hst.out, HV.out]
                        refine ⟨s + 1, A2, c2, by omega, rfl, by go_num, by rw [e]; simp, ?_, ?_, ?_, ?_⟩
                        · rw [e, ← ints_snoc]; exact hO2
                        · exact ((HB.out.setCell (by simp) _).alloc (by simp; omega) _).trans (hbl2.mono (by omega))
                        · exact ((HX.out.setOther ⟨w.heap.size + 1, m / 4, none⟩ (.int .i64 q) (by simp)).alloc (.cells #[.int .i64 ((m : Int) / 4)] 3)).later hbl2 (by omega)
                        · rw [e]; exact ((HR1.out.setInt (m / 4) q).alloc (.cells #[.int .i64 ((m : Int) / 4)] 3)).later hbl2 (by omega)
                    · have HV : Hid (lbVisit M q xn s st = st) := by
                        show lbVisit M q xn s st = _
                        unfold lbVisit
                        rw [Hto.out, if_neg hneg]
                      have HO := Lib.hid hown; clear hown
                      have HR1 := Lib.hid hrow; clear hrow
                      go_wp2
                      go_roundg (4 - (s + 1))
                      case measure => omega
                      case rel =>
                        have e : lbSlots M q xn (s + 1) (pp, qq) = st := by rw [lbSlots, Hst.out, HV.out]
                        exact ⟨s + 1, A, cd, by omega, rfl, by go_num, by rw [e], by rw [e]; exact HO.out, hb, hbox, by rw [e]; exact HR1.out⟩
                  · obtain rfl : s = 4 := by omega
                    have HR1 := Lib.hid hrow; clear hrow
                    have HO := Lib.hid hown; clear hown
                    go_wp2
                    go_roundg g1
                    case measure => omega
                    case rel =>
                      have e := HQ2.out
                      rw [Hst.out] at e
                      exact ⟨st.1, st.2, A, cd, rfl, HO.out, by rw [hl1]; exact hpl, hrg, e, by omega, hb, hbox, HR1.out⟩
        · obtain rfl : c = k := by omega
          rw [Nat.sub_self, lbOuter] at hout
          simp only [Option.some.injEq, Prod.mk.injEq] at hout
          obtain ⟨rfl, rfl⟩ := hout
          have Hrow := Lib.hid hrow; clear hrow
          have HE : ∃ a cc, Ending.returned (.tuple #[.slice (some ⟨w.heap.size + 1, 0, none⟩) p.length p.length, .int .i64 q]) = Ending.returned (.tuple #[.slice a p.length cc, .int .i64 q]) ∧ Below w.heap.size w wr ∧ Own wr w.heap.size 3 a cc (ints p) :=
            ⟨some ⟨w.heap.size + 1, 0, none⟩, p.length, rfl, hb, ints_length p ▸ Hrow.out.own (by omega)⟩
          go_wp2
          go_ret2
          rw [hpl] at HE
          simpa [hpl] using HE
end Go.Proofs.YtmhhjchnjaefhaaDoor


namespace Go.Proofs.YtmhhjchnjaefhaaDoor
open Go Go.RowKit
set_option maxHeartbeats 1000000 in
theorem outgoing_any (S M : List Int) (L : Int) (aS aM : Option Addr) (cS cM : Nat) (h : Nat) (w : World) (hh : h < 4 * S.length) (hb : S.length ≤ 1000000) (hS : IntsAt w aS S) :
    Calls Tryd.prog 48 #[.agg #[.slice aS S.length cS, .slice aM M.length cM, .int .i64 L], .int .i64 (h : Int)] w fun e w' => e = .returned (.bool (outB S h)) ∧ Below w.heap.size w w' := by
  obtain ⟨b, off, rfl, hbl, hc⟩ := hS.open (by omega)
  have hc1 := hc (h / 4) (by omega)
  have hlt : (h : Int) / 4 < (S.length : Int) := by omega
  clear hc hS
  have hB : ∀ o, Below w.heap.size w (w.alloc o) := fun o => (Below.refl _ _).alloc (Nat.le_refl _) o
  rcases (show h % 4 = 0 ∨ h % 4 = 1 ∨ h % 4 = 2 ∨ h % 4 = 3 by omega) with e | e | e | e
  · have hv := outB_0 S h e
    have e' : ((h : Int) % 4) = 0 := by omega
    clear e
    have t1 : (((h : Int) % 4) == 1) = false := by rw [e']; rfl
    have t2 : (((h : Int) % 4) == 2) = false := by rw [e']; rfl
    have t3 : (((h : Int) % 4) == 3) = false := by rw [e']; rfl
    clear e'
    go_enter Tryd.func48, Tryd.ntmps48
    go_wp2
    go_ret
    exact ⟨ret_bool hv.symm, hB _⟩
  · have hv := Lib.hid (outB_1 S h e)
    have e' : ((h : Int) % 4) = 1 := by omega
    clear e
    have t1 : (((h : Int) % 4) == 1) = true := by rw [e']; rfl
    clear e'
    go_enter Tryd.func48, Tryd.ntmps48
    go_wp2
    go_ret
    exact ⟨ret_bool hv.out.symm, hB _⟩
  · have hv := outB_2 S h e
    have e' : ((h : Int) % 4) = 2 := by omega
    clear e
    have t1 : (((h : Int) % 4) == 1) = false := by rw [e']; rfl
    have t2 : (((h : Int) % 4) == 2) = true := by rw [e']; rfl
    clear e'
    go_enter Tryd.func48, Tryd.ntmps48
    go_wp2
    go_ret
    exact ⟨ret_bool hv.symm, hB _⟩
  · have hv := Lib.hid (outB_3 S h e)
    have e' : ((h : Int) % 4) = 3 := by omega
    clear e
    have t1 : (((h : Int) % 4) == 1) = false := by rw [e']; rfl
    have t2 : (((h : Int) % 4) == 2) = false := by rw [e']; rfl
    have t3 : (((h : Int) % 4) == 3) = true := by rw [e']; rfl
    clear e'
    go_enter Tryd.func48, Tryd.ntmps48
    go_wp2
    go_ret
    exact ⟨ret_bool hv.out.symm, hB _⟩
theorem turn_any (h : Nat) (b : Int) (w : World) (h1 : h ≤ 1000000000) (b0 : -8 ≤ b) (b1 : b ≤ 8) :
    Calls Tryd.prog 60 #[.int .i64 (h : Int), .int .i64 b] w fun e w' => e = .returned (.int .i64 ((tn h b : Nat) : Int)) ∧ w = w' := by
  obtain ⟨t0, t1, hd⟩ := tmod_four b b0 b1
  have e := Lib.hid (turn_num h b _ b0 t0 t1 hd)
  clear hd
  go_enter Tryd.func60, Tryd.ntmps60
  go_wp2
  go_ret
  exact ⟨ret_int (by simpa using e.out), rfl⟩
end Go.Proofs.YtmhhjchnjaefhaaDoor


namespace Go.Proofs.YtmhhjchnjaefhaaDoor
open Go Go.RowKit
/-- A function value that, in every world behind w, takes each number below N to f of it, and leaves the old blocks alone. -/
def NatFn (w : World) (F : FuncId) (cap : Array Value) (N : Nat) (f : Nat → Nat) : Prop :=
  ∀ (W : World) (x : Nat), Below w.heap.size w W → x < N → Calls Tryd.prog F (#[.int .i64 (x : Int)] ++ cap) W fun e w' => e = .returned (.int .i64 ((f x : Nat) : Int)) ∧ Below W.heap.size W w'
theorem NatFn.later {w W : World} {F : FuncId} {cap : Array Value} {N : Nat} {f : Nat → Nat} (h : NatFn w F cap N f) (hb : Below w.heap.size w W) : NatFn W F cap N f :=
  fun W' x hb' hx => h W' x (below_step hb hb') hx
theorem Tryd.info22 : (Tryd.prog.info? 22).map (fun i => (i.zero, i.size, i.bytes)) = some (some (.slice none 0 0), 1, 24) := by kernel_rfl
theorem Tryd.info4 : (Tryd.prog.info? 4).map (fun i => (i.zero, i.size, i.bytes)) = some (some (.bool false), 1, 1) := by kernel_rfl
end Go.Proofs.YtmhhjchnjaefhaaDoor


namespace Go.Proofs.YtmhhjchnjaefhaaDoor
open Go Go.RowKit
set_option maxRecDepth 100000 in
set_option maxHeartbeats 4000000 in
theorem spherical_any (S M : List Int) (L : Int) (aS aM : Option Addr) (cS cM : Nat) (w : World) (part : List Int) (parts : Nat)
    (hS : S.length ≤ 1000) (hl : M.length = 4 * S.length) (hM : IntsAt w aM M) (hr : ∀ i, i < 4 * S.length → 0 ≤ nth M i ∧ nth M i < 4 * (S.length : Int)) (hinj : Inj (fc M) (4 * S.length))
    (hlab : lbOuter M 1000000 S.length 0 (List.replicate S.length (-1), 0) = some (part, (parts : Int))) (hpl : part.length = S.length) (hpr : ∀ c, c < S.length → 0 ≤ nth part c ∧ nth part c < (parts : Int)) (hpp : parts ≤ S.length) :
    Calls Tryd.prog 49 #[.agg #[.slice aS S.length cS, .slice aM M.length cM, .int .i64 L]] w fun e w' => e = .returned (.bool (sphL M S.length part parts)) ∧ Below w.heap.size w w' := by
  obtain ⟨i0, hi, hz0, hz1, hz2⟩ := info_parts Tryd.info3
  obtain ⟨i1, hi1, hy0, hy1, hy2⟩ := info_parts Tryd.info4
  have Hres : Hid (sphL M S.length part parts = allTwo (sfTo (fc M) (perOf (fc M) (4 * S.length)) part (4 * S.length) (exDec part S.length (List.replicate parts 0)) (4 * S.length)).2) := Lib.hid (by unfold sphL; rfl)
  have HL := Lib.hid hl; clear hl
  have HM := Lib.hid hM; clear hM
  have Hr := Lib.hid hr; clear hr
  have HI := Lib.hid hinj; clear hinj
  have Hlab := Lib.hid hlab; clear hlab
  have Hpl := Lib.hid hpl; clear hpl
  have Hpr := Lib.hid hpr; clear hpr
  go_enter Tryd.func49, Tryd.ntmps49
  go_wp2_with fail
  refine (label_any S M L aS aM cS cM _ 1000000 part parts hS (by omega) HL.out (HM.out.later ((Below.refl _ _).alloc (Nat.le_refl _) _)) Hr.out Hlab.out).mono ?_
  rintro e w1 ⟨aP, cP, rfl, hb1, hP⟩
  have Hbox : Hid (Row w1 w.heap.size 24 [.slice aS S.length cS, .slice aM M.length cM, .int .i64 L]) := Lib.hid ((Row.new w #[_, _, _] 24).later hb1 (by simp))
  have hb1' : Below w.heap.size w w1 := below_of ((Below.refl _ _).alloc (Nat.le_refl _) _) hb1 (by simp)
  have hz1' := hb1.size
  rw [World.size_alloc] at hz1' hP
  have HP := Lib.hid hP; clear hP hb1
  generalize hn : S.length = n at *
  have Hn := Lib.hid hn; clear hn
  have hplen := Hpl.out
  rw [hplen]
  have Hplen := Lib.hid hplen; clear hplen
  go_wp2_with (with_reducible refine wpList_make_one rfl (.tmp 18) 22 rfl 3 i0 (.int .i64 0) 8 Tryd.underlying22 hi hz0 hz1 hz2 rfl .i64 _ parts rfl rfl (by omega) (by omega) ?_)
  have HP1 := Lib.hid HP.out.ints
  have HbW := Lib.hid hb1'; clear hb1' HP
  go_loopg [22] n (fun g i wr => ∃ k : Nat, k ≤ n ∧ g = n - k ∧ i = .int .i64 k ∧ Below w1.heap.size w1 wr ∧ Row wr w1.heap.size 3 (ints (exDec part k (List.replicate parts 0))))
  case atStart =>
    refine ⟨0, Nat.zero_le _, rfl, rfl, (Below.refl _ _).alloc (Nat.le_refl _) _, ?_⟩
    have := Row.new w1 (Array.replicate parts (Value.int .i64 0)) 3
    simpa [ints, exDec] using this
  case round =>
    obtain ⟨k, hk, rfl, rfl, hb, hrow⟩ := hrel
    by_cases hlt : k < n
    · have hbd := exDec_bd part parts k (nth part k).toNat
      have hel := exDec_len part k (List.replicate parts 0)
      rw [List.length_replicate] at hel
      have Hst : Hid (exDec part (k + 1) (List.replicate parts 0) = (exDec part k (List.replicate parts 0)).set (nth part k).toNat (nth (exDec part k (List.replicate parts 0)) (nth part k).toNat - 1)) := Lib.hid (by rw [exDec])
      generalize exDec part k (List.replicate parts 0) = ex at *
      obtain ⟨hp0, hp1⟩ := Hpr.out k hlt
      obtain ⟨bP, oP, rfl, hbP, hcP⟩ := HP1.out.open (by rw [Hplen.out]; omega)
      have hck := hcP k (by rw [Hplen.out]; exact hlt)
      rw [← hb.cell (p := ⟨bP, oP + k, none⟩) hbP] at hck
      obtain ⟨q, hq⟩ := Int.eq_ofNat_of_zero_le hp0
      rw [hq] at hck hp1 hbd Hst
      rw [Int.toNat_natCast] at hbd Hst
      have hq1 : q < parts := by omega
      have hcx := hrow.int q (by omega)
      have hfx := hrow.frozen q
      have Hrow := Lib.hid (hrow.setInt q (nth ex q - 1))
      have Hel := Lib.hid hel
      obtain ⟨hbd1, hbd2⟩ := hbd
      clear hrow hcP hq hp0 hp1 hel
      go_wp2_with fail
      go_roundg (n - (k + 1))
      case measure => omega
      case rel => exact ⟨k + 1, by omega, rfl, by go_num, hb.setCell (Nat.le_refl _) _, by rw [Hst.out]; exact Hrow.out⟩
    · obtain rfl : k = n := by omega
      have hbx := ((Hbox.out.later hb (by omega)).cell 1)
      simp only [List.getElem?_cons_succ, List.getElem?_cons_zero] at hbx
      have hMl := HL.out
      have Hbd := Lib.hid (fun i => exDec_bd part parts k i)
      have hel := exDec_len part k (List.replicate parts 0)
      rw [List.length_replicate] at hel
      generalize exDec part k (List.replicate parts 0) = ex at *
      have Hel := Lib.hid hel
      have Hrow := Lib.hid hrow
      have Hb := Lib.hid hb
      have hsz := hrow.lt
      clear hrow hel hb
      have HMl := Lib.hid hMl; clear hMl
      have hM1 : M.length ≤ 4 * k := by rw [HMl.out]; omega
      have hM2 : 4 * k ≤ M.length := by rw [HMl.out]; omega
      have hbx2 : ∀ o, (wr.alloc o).cell? ⟨w.heap.size, 1, none⟩ = some (.slice aM M.length cM) := fun o => by rw [World.cell?_alloc_lt _ _ _ (by show w.heap.size < _; omega)]; exact hbx
      go_wp2_with (with_reducible refine wpList_make_one rfl (.tmp 35) 77 rfl 4 i1 (.bool false) 1 Tryd.underlying77 hi1 hy0 hy1 hy2 rfl .i64 _ M.length rfl rfl (by omega) (by omega) ?_)
      obtain ⟨wS, rfl⟩ : ∃ wS : World, wS = wr := ⟨_, rfl⟩
      go_loopg [40] (4 * k) (fun g i wo => ∃ h : Nat, h ≤ 4 * k ∧ g = 4 * k - h ∧ i = .int .i64 h ∧ Below w1.heap.size w1 wo ∧ Row wo w1.heap.size 3 (ints (sfTo (fc M) (perOf (fc M) (4 * k)) part (4 * k) ex h).2) ∧ Row wo wS.heap.size 4 (bools (sfTo (fc M) (perOf (fc M) (4 * k)) part (4 * k) ex h).1))
      case atStart =>
        refine ⟨0, Nat.zero_le _, rfl, rfl, Hb.out.alloc (by omega) _, Hrow.out.alloc _, ?_⟩
        have := Row.new wS (Array.replicate M.length (Value.bool false)) 4
        rw [HMl.out] at this ⊢
        simpa [bools, sfTo] using this
      case round =>
        clear hbx hbx2
        obtain ⟨h, hh, rfl, rfl, hb, hrow, hsee⟩ := hrel
        have hl := sfTo_len (fc M) (perOf (fc M) (4 * k)) part (4 * k) ex h
        have hbd := sfTo_bd (fc M) (perOf (fc M) (4 * k)) part (4 * k) ex _ Hbd.out h
        have Hal := Lib.hid (fun (hk : h < 4 * k) (hun : bth (sfTo (fc M) (perOf (fc M) (4 * k)) part (4 * k) ex h).1 h = false) => mark_along HI.out (fun x hx => perOf_spec HI.out x hx) part ex h hk hun)
        generalize hst : sfTo (fc M) (perOf (fc M) (4 * k)) part (4 * k) ex h = st at *
        have Hst := Lib.hid hst; clear hst
        by_cases hlt : h < 4 * k
        · have hdec : decide (h < M.length) = true := decide_eq_true (by omega)
          have hbx := (((Hbox.out.later hb (by omega)).cell 1))
          simp only [List.getElem?_cons_succ, List.getElem?_cons_zero] at hbx
          have hcs := hsee.bool h (by omega)
          have hfs := hsee.frozen h
          by_cases hun : bth st.1 h = true
          · have HE : Hid (sfTo (fc M) (perOf (fc M) (4 * k)) part (4 * k) ex (h + 1) = st) := Lib.hid (by rw [sfTo, Hst.out, sfRound, if_pos hun])
            rw [hun] at hcs
            have Hrow2 := Lib.hid hrow
            have Hsee2 := Lib.hid hsee
            clear hrow hsee hun
            go_wp2_with fail
            go_roundg (4 * k - (h + 1))
            case measure => omega
            case rel => exact ⟨h + 1, by omega, rfl, by go_num, hb, by rw [HE.out]; exact Hrow2.out, by rw [HE.out]; exact Hsee2.out⟩
          · have HE : Hid (sfTo (fc M) (perOf (fc M) (4 * k)) part (4 * k) ex (h + 1) = (markL (orb (fc M) h (perOf (fc M) (4 * k) h)) st.1, st.2.set (nth part (h / 4)).toNat (nth st.2 (nth part (h / 4)).toNat + 1))) := Lib.hid (by rw [sfTo, Hst.out, sfRound, if_neg hun])
            have hun2 : bth st.1 h = false := by simpa using hun
            have Hmk := Lib.hid (Hal.out hlt hun2)
            rw [hun2] at hcs
            obtain ⟨hp0, hp1⟩ := Hpr.out (h / 4) (by omega)
            obtain ⟨bP, oP, rfl, hbP, hcP⟩ := HP1.out.open (by rw [Hplen.out]; omega)
            have hck := hcP (h / 4) (by rw [Hplen.out]; omega)
            rw [← hb.cell (p := ⟨bP, oP + h / 4, none⟩) hbP] at hck
            obtain ⟨q, hq⟩ := Int.eq_ofNat_of_zero_le hp0
            have hbq := hbd q
            rw [hq] at hck hp1 HE
            rw [Int.toNat_natCast] at HE
            have hq1 : q < parts := by omega
            have hcx := hrow.int q (by rw [hl.2, Hel.out]; exact hq1)
            have hfx := hrow.frozen q
            have Hsee2 := Lib.hid (hsee.setOther ⟨w1.heap.size, q, none⟩ (.int .i64 (nth st.2 q + 1)) (by simp; omega))
            have Hrow2 := Lib.hid (hrow.setInt q (nth st.2 q + 1))
            obtain ⟨hbq1, hbq2⟩ := hbq
            have hpar : (h : Int) / 4 < (k : Int) := by omega
            have Hl := Lib.hid hl
            have Hb2 := Lib.hid hb
            clear hrow hsee hun hun2 hcP hq hp0 hp1 hl hbd Hal
            go_wp2_with fail
            have hper := perOf_spec HI.out h hlt
            have Hper := Lib.hid hper; clear hper
            have Hck := Lib.hid hck
            clear hck hcx hfx hcs hfs hbx hb
            go_loopg [10] (perOf (fc M) (4 * k) h) (fun g gv wi => ∃ j : Nat, j ≤ perOf (fc M) (4 * k) h ∧ g = perOf (fc M) (4 * k) h - j ∧ gv = .int .i64 ((iter (fc M) j h : Nat) : Int) ∧ Below w1.heap.size w1 wi ∧ Row wi w1.heap.size 3 (ints (st.2.set q (nth st.2 q + 1))) ∧ Row wi wS.heap.size 4 (bools (markL (orb (fc M) h j) st.1)))
            case atStart => exact ⟨0, Nat.zero_le _, rfl, rfl, Hb2.out.setCell (Nat.le_refl _) _, Hrow2.out, Hsee2.out⟩
            case round =>
              clear Hb2 Hrow2 Hsee2
              obtain ⟨j, hj, rfl, rfl, hb, hrow, hsee⟩ := hrel
              have hxl := iter_lt (fc M) (4 * k) HI.out.lt j h hlt
              have hmk := Hmk.out j hj
              have Hnx := Lib.hid (show iter (fc M) (j + 1) h = tn (nth M (iter (fc M) j h)).toNat (-1) from rfl)
              have Hms := Lib.hid (show markL (orb (fc M) h (j + 1)) st.1 = (markL (orb (fc M) h j) st.1).set (iter (fc M) j h) true by rw [orb_succ, markL_snoc])
              generalize iter (fc M) j h = x at *
              have hcs := hsee.bool x (by rw [markL_length, Hl.out.1]; exact hxl)
              have hfs := hsee.frozen x
              by_cases hjl : j = perOf (fc M) (4 * k) h
              · rw [hmk, decide_eq_true hjl] at hcs
                have Hj := Lib.hid hjl
                have Hrow2 := Lib.hid hrow
                have Hsee2 := Lib.hid hsee
                clear hmk hrow hsee hjl
                go_wp2_with fail
                go_roundg (4 * k - (h + 1))
                case measure => omega
                case rel => exact ⟨h + 1, by omega, rfl, by go_num, hb, by rw [HE.out]; exact Hrow2.out, by rw [HE.out, ← Hj.out]; exact Hsee2.out⟩
              · rw [hmk, decide_eq_false hjl] at hcs
                have hjl2 : j < perOf (fc M) (4 * k) h := by omega
                obtain ⟨bM, oM, rfl, hbM, hcM⟩ := HM.out.open (by rw [HL.out]; omega)
                have hbW := HbW.out.size
                have hcm := hcM x (by rw [HL.out]; exact hxl)
                have hb3 := hb.setCell (p := ⟨wS.heap.size, x, none⟩) (by simp; omega) (.bool true)
                have hbx := (((Hbox.out.later hb3 (by omega)).cell 1))
                simp only [List.getElem?_cons_succ, List.getElem?_cons_zero] at hbx
                rw [← HbW.out.cell (p := ⟨bM, oM + x, none⟩) hbM, ← hb3.cell (p := ⟨bM, oM + x, none⟩) (by show bM < _; omega)] at hcm
                obtain ⟨hm0, hm1⟩ := Hr.out x hxl
                obtain ⟨m, hm⟩ := Int.eq_ofNat_of_zero_le hm0
                rw [hm] at hcm hm1
                rw [hm, Int.toNat_natCast] at Hnx
                have hML : (x : Int) < (M.length : Int) := by rw [HL.out]; omega
                have Hrow2 := Lib.hid (hrow.setOther ⟨wS.heap.size, x, none⟩ (.bool true) (by simp; omega))
                have Hsee2 := Lib.hid (hsee.setBool x true)
                have Hb3 := Lib.hid hb3
                clear hmk hrow hsee hjl hm hm0 hcM hb3 hb
                go_wp2_with (go_at_call 60; refine (turn_any m (-1) _ (by omega) (by omega) (by omega)).mono ?_; rintro e w' ⟨rfl, rfl⟩)
                go_roundg (perOf (fc M) (4 * k) h - (j + 1))
                case measure => omega
                case rel => exact ⟨j + 1, by omega, rfl, by rw [Hnx.out], Hb3.out, Hrow2.out, by rw [Hms.out]; exact Hsee2.out⟩
        · obtain rfl : h = 4 * k := by omega
          have HF : Hid (sphL M k part parts = allTwo st.2) := Lib.hid (by rw [Hres.out, Hst.out])
          have hl2 : st.2.length = parts := by rw [hl.2, Hel.out]
          have Hl2 := Lib.hid hl2
          have Hrow2 := Lib.hid hrow
          have hbb := below_of HbW.out hb (by omega)
          have Hbb := Lib.hid hbb
          clear hrow hsee hb hbb hl hbd Hal hl2 Hst Hbd
          generalize st.2 = ex2 at *
          go_wp2_with fail
          go_loopg [75] parts (fun g i wi => ∃ q : Nat, q ≤ parts ∧ g = parts - q ∧ i = .int .i64 q ∧ wi = wr ∧ ∀ i, i < q → nth ex2 i = 2)
          case atStart => exact ⟨0, Nat.zero_le _, rfl, rfl, rfl, fun i hi => by omega⟩
          case round =>
            obtain ⟨q, hq, rfl, rfl, rfl, hall⟩ := hrel
            have Hall := Lib.hid hall; clear hall
            by_cases hqp : q < parts
            · have hcx := Hrow2.out.int q (by rw [Hl2.out]; exact hqp)
              by_cases h2 : nth ex2 q = 2
              · have ht : (nth ex2 q != 2) = false := by rw [h2]; rfl
                have H2 := Lib.hid h2; clear h2
                go_wp2_with fail
                go_roundg (parts - (q + 1))
                case measure => omega
                case rel =>
                  refine ⟨q + 1, by omega, rfl, by go_num, rfl, fun i hi => ?_⟩
                  rcases Nat.lt_or_ge i q with h | h
                  · exact Hall.out i h
                  · obtain rfl : i = q := by omega
                    exact H2.out
              · have ht : (nth ex2 q != 2) = true := by simpa using h2
                have hfin : sphL M k part parts = false := by
                  rw [HF.out]
                  unfold allTwo
                  rw [List.all_eq_false]
                  exact ⟨nth ex2 q, nth_mem _ _ (by rw [Hl2.out]; exact hqp), by simpa using h2⟩
                have Hfin := Lib.hid hfin
                clear hfin h2
                go_wp2_with fail
                go_ret
                rw [Hn.out, Hfin.out]
                exact ⟨rfl, Hbb.out⟩
            · have hfin : sphL M k part parts = true := by
                rw [HF.out]
                unfold allTwo
                rw [List.all_eq_true]
                intro x hx
                obtain ⟨i, hi, rfl⟩ := mem_nth hx
                have := Hall.out i (by rw [Hl2.out] at hi; omega)
                simpa using this
              have Hfin := Lib.hid hfin
              clear hfin
              go_wp2_with fail
              go_ret
              rw [Hn.out, Hfin.out]
              exact ⟨rfl, Hbb.out⟩
end Go.Proofs.YtmhhjchnjaefhaaDoor


namespace Go.Proofs.YtmhhjchnjaefhaaDoor
open Go Go.RowKit
section
variable {P : Program} {ops : Array Oper} {C : World → Prop} {Q : Act → Prop} {a : Act} {o : Oper} {rest : List Oper}
theorem wp_region_class {id : Nat} {Q : Exit → Act → World → Prop} {w : World} {l : List Oper} (C : World → Prop) (hm : P.follows .mixedOrders = true) (hB : Region.lexB .any l.toArray = true) (hC : C w.drew)
    (h : wpQuiet P l.toArray C (fun a' => ∀ w', C w' → Q .normal a' w') l a) : (Code.region id l.toArray true).wp P Q a w :=
  wp_region_quiet (C := C) hm hB hC (by simpa using h)
theorem wpQuiet_val (v : Value) (hg : o.guard = none) (hv : ∀ W, C W → (execOp a.eval o).run P W = .ok (.value v) W) (h : wpQuiet P ops C Q rest (a.put o.dst v)) : wpQuiet P ops C Q (o :: rest) a := by
  unfold wpQuiet
  rw [if_pos (by simp [Region.wanted, hg])]
  refine ⟨v, fun W hW => ?_, h⟩
  unfold Oper.quietAt
  rw [hv W hW]
  exact ⟨rfl, rfl⟩
theorem wpQuiet_move (x : Operand) (v : Value) (hg : o.guard = none) (hop : o.op = .move x) (hx : a.eval x = v) (h : wpQuiet P ops C Q rest (a.put o.dst v)) : wpQuiet P ops C Q (o :: rest) a :=
  wpQuiet_val v hg (fun W _ => by unfold execOp; rw [hop]; simp only [hx]; rfl) h
/-- A call of a named function. -/
theorem wpQuiet_call (v : Value) (f : FuncId) (xs : List Operand) (ts : Array TypeId) (vs : List Value) (hg : o.guard = none) (hop : o.op = .call { callee := .value (.func f), args := xs.toArray, argTypes := ts })
    (hxs : xs.map a.eval = vs) (hf : ∀ args W, (callFunc f args).run P W = .ok (.enter f args) W) (hc : ∀ W, C W → Calls P f vs.toArray W (fun e w' => e = .returned v ∧ C w')) (h : wpQuiet P ops C Q rest (a.put o.dst v)) : wpQuiet P ops C Q (o :: rest) a := by
  unfold wpQuiet
  rw [if_pos (by simp [Region.wanted, hg])]
  refine ⟨v, fun W hW => ?_, h⟩
  unfold Oper.quietAt
  have hr : (execOp a.eval o).run P W = .ok (.enter f vs.toArray) W := by
    simp [execOp, hop, resolve, hxs, Act.eval, Deferred.ofValue, invoke, hf]
  rw [hr]
  exact ⟨rfl, hc W hW⟩
/-- A whole row, loaded as a struct. -/
theorem run_load_row {t b : Nat} {E : TypeId} {vs : List Value} {W : World} (hag : (isAgg t).run P W = .ok true W) (hsz : (sizeOf t).run P W = .ok vs.length W) (h : Row W b E vs) :
    (Instr.loadAt t (.pointer (some ⟨b, 0, none⟩))).run P W = .ok (.agg vs.toArray) W := by
  have hc := run_loadCells_list (P := P) W ⟨b, 0, none⟩ vs (fun j v hj => by rw [Addr.add_lit, Nat.zero_add, h.cell]; exact hj)
  simp [Instr.loadAt, Instr.sureAddr, loadVar, hag, hsz, hc, Result.andThen]
theorem wpQuiet_loadRow (x : Operand) (t b : Nat) (E : TypeId) (vs : List Value) (hg : o.guard = none) (hop : o.op = .load t x) (hx : a.eval x = .pointer (some ⟨b, 0, none⟩))
    (hag : ∀ W, (isAgg t).run P W = .ok true W) (hsz : ∀ W, (sizeOf t).run P W = .ok vs.length W) (hr : ∀ W, C W → Row W b E vs) (h : wpQuiet P ops C Q rest (a.put o.dst (.agg vs.toArray))) : wpQuiet P ops C Q (o :: rest) a :=
  wpQuiet_val _ hg (fun W hW => by simp [execOp, hop, hx, run_load_row (hag W) (hsz W) (hr W hW), Result.andThen]) h
theorem wpQuiet_end {a : Act} (h : Q a) : wpQuiet P ops C Q [] a := h
end
end Go.Proofs.YtmhhjchnjaefhaaDoor


