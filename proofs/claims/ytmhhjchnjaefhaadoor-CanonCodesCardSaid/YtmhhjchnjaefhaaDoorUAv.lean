/- The reference: Renumber. The reference: Form. -/
import Derived.WalkKit
import Derived.WalkSpells
import Derived.WalkLawsBesides
import Derived.Deep.AppendSrc
import Derived.Deep.LoopGhost
import Derived.Deep.QuietTactic
import Derived.Deep.RegionWith
import Derived.Deep.DeepMust
import Derived.Deep.DeepFit
import Derived.BigQuiet
import Derived.Lib.Hide
import Derived.Outline
import Derived.Test.YtmhhjchnjaefhaaDoorProg
import Derived.Deep.Matrix
import Derived.Deep.DeepCutAuto
import Derived.Deep.RegionLaw
import Derived.Deep.RegionHeld3
import Derived.Lib.SliceRun
import Derived.Shelf.Strings.Builder1
import Derived.Shelf.Small.Wraps
import Derived.Shelf.Strings.BuilderF
import Derived.Shelf.Strings.BuilderK
import Derived.Shelf.Strconv.Itoa0
import Derived.Shelf.Strconv.Itoa1
import Derived.Shelf.LaysM
import Derived.Shelf.Strconv.Itoa2
import Derived.Shelf.Strconv.Itoa3
import Derived.Shelf.Slices.Equal
import Derived.Ground.Names2Prog
import Derived.Shelf.Slices.Clone
import Derived.Shelf.Slices.SearchI
import Derived.Shelf.Slices.Empties2
import Derived.Ground.SlgnProg
import Derived.Shelf.SlicesE.Clone
import Derived.Sort.OwnSortedInts
import Derived.Shelf.Small.Bits
import Derived.Shelf.Sort.Plain
import Derived.Shelf.Slices.Turned
import Derived.Shelf.Slices.CompactI
import Derived.Shelf.Slices.Cells
import Derived.Shelf.Slices.In.SortNone
import Derived.Lib.AppendZeros
import Derived.Deep.RegionHeld
import Derived.Test.YtmhhjchnjaefhaaDoorUAa
import Derived.Test.YtmhhjchnjaefhaaDoorUAb
import Derived.Test.YtmhhjchnjaefhaaDoorUAc
import Derived.Test.YtmhhjchnjaefhaaDoorUAd
import Derived.Test.YtmhhjchnjaefhaaDoorUAe
import Derived.Test.YtmhhjchnjaefhaaDoorUAf
import Derived.Test.YtmhhjchnjaefhaaDoorUAg
import Derived.Test.YtmhhjchnjaefhaaDoorUAh
import Derived.Test.YtmhhjchnjaefhaaDoorUAi
import Derived.Test.YtmhhjchnjaefhaaDoorUAj
import Derived.Test.YtmhhjchnjaefhaaDoorUAk
import Derived.Test.YtmhhjchnjaefhaaDoorUAl
import Derived.Test.YtmhhjchnjaefhaaDoorUAm
import Derived.Test.YtmhhjchnjaefhaaDoorUAn
import Derived.Test.YtmhhjchnjaefhaaDoorUAo
import Derived.Test.YtmhhjchnjaefhaaDoorUAp
import Derived.Test.YtmhhjchnjaefhaaDoorUAr
import Derived.Test.YtmhhjchnjaefhaaDoorUAs
import Derived.Test.YtmhhjchnjaefhaaDoorUAt
import Derived.Test.YtmhhjchnjaefhaaDoorUAu
namespace Go.Proofs.YtmhhjchnjaefhaaDoor
open Go Go.RowKit
def SgF (S : List Int) (o : List Nat) (c : Nat) (xs : List Int) : Prop := xs.length = S.length ∧ ∀ d, d < c → nth xs (o.idxOf d) = nth S d
def MtF (M : List Int) (o : List Nat) (n h : Nat) (ys : List Int) : Prop := ys.length = 4 * n ∧ ∀ k, k < h → nth ys (4 * o.idxOf (k / 4) + k % 4) = partV M o k
section
variable {n : Nat} {o : List Nat} (ho : o.Perm (List.range n))
include ho
theorem ord_len : o.length = n := by have := ho.length_eq; rwa [List.length_range] at this
theorem ord_nd : o.Nodup := ho.nodup_iff.2 List.nodup_range
theorem ord_in {c : Nat} (hc : c < n) : c ∈ o := ho.mem_iff.2 (List.mem_range.2 hc)
theorem ord_lt {c : Nat} (hc : c ∈ o) : c < n := List.mem_range.1 (ho.mem_iff.1 hc)
theorem ord_idx {c : Nat} (hc : c < n) : o.idxOf c < n := by
  have := List.idxOf_lt_length_of_mem (ord_in ho hc)
  rwa [ord_len ho] at this
theorem ord_at {c : Nat} (hc : c < n) : o.getD (o.idxOf c) 0 = c := by
  have hl := List.idxOf_lt_length_of_mem (ord_in ho hc)
  rw [List.getD_eq_getElem?_getD, List.getElem?_eq_getElem hl, Option.getD_some, List.getElem_idxOf]
theorem ord_of {i : Nat} (hi : i < n) : o.idxOf (o.getD i 0) = i := by
  have hl : i < o.length := by rw [ord_len ho]; exact hi
  rw [List.getD_eq_getElem?_getD, List.getElem?_eq_getElem hl, Option.getD_some]
  exact (ord_nd ho).idxOf_getElem i hl
theorem ord_inj {c d : Nat} (hc : c < n) (hd : d < n) (h : o.idxOf c = o.idxOf d) : c = d := by
  rw [← ord_at ho hc, h, ord_at ho hd]
theorem SgF.next {S : List Int} (hn : S.length = n) {c : Nat} {xs : List Int} (h : SgF S o c xs) (hc : c < n) : SgF S o (c + 1) (xs.set (o.idxOf c) (nth S c)) := by
  refine ⟨by rw [List.length_set]; exact h.1, fun d hd => ?_⟩
  rw [nth_set _ _ _ _ (by rw [h.1, hn]; exact ord_idx ho hc)]
  by_cases e : o.idxOf c = o.idxOf d
  · rw [if_pos e, ord_inj ho hc (by omega) e]
  · rw [if_neg e]
    refine h.2 d ?_
    by_cases g : d = c
    · subst g; exact absurd rfl e
    · omega
theorem SgF.all {S : List Int} (hn : S.length = n) {xs : List Int} (h : SgF S o n xs) : xs = partS S o := by
  refine ext_nth (by rw [partS_len, h.1, ord_len ho, hn]) fun i hi => ?_
  rw [h.1, hn] at hi
  rw [partS_nth (by rw [ord_len ho]; exact hi), ← h.2 (o.getD i 0) (ord_lt ho (getD_mem (by rw [ord_len ho]; exact hi))), ord_of ho hi]
theorem MtF.next {M : List Int} {k : Nat} {ys : List Int} (h : MtF M o n k ys) (hk : k < 4 * n) : MtF M o n (k + 1) (ys.set (4 * o.idxOf (k / 4) + k % 4) (partV M o k)) := by
  have h1 := ord_idx ho (c := k / 4) (by omega)
  refine ⟨by rw [List.length_set]; exact h.1, fun d hd => ?_⟩
  rw [nth_set _ _ _ _ (by rw [h.1]; omega)]
  by_cases e : 4 * o.idxOf (k / 4) + k % 4 = 4 * o.idxOf (d / 4) + d % 4
  · have := ord_inj ho (c := k / 4) (d := d / 4) (by omega) (by omega) (by omega)
    have e2 : d = k := by omega
    subst e2
    rw [if_pos rfl]
  · rw [if_neg e]
    refine h.2 d ?_
    by_cases g : d = k
    · subst g; exact absurd rfl e
    · omega
theorem MtF.all {M : List Int} {ys : List Int} (h : MtF M o n (4 * n) ys) : ys = partM M o := by
  refine ext_nth (by rw [partM_len, h.1, ord_len ho]) fun j hj => ?_
  rw [h.1] at hj
  have hl := ord_lt ho (getD_mem (o := o) (i := j / 4) (by rw [ord_len ho]; omega))
  have := h.2 (4 * o.getD (j / 4) 0 + j % 4) (by omega)
  rw [show (4 * o.getD (j / 4) 0 + j % 4) / 4 = o.getD (j / 4) 0 by omega, show (4 * o.getD (j / 4) 0 + j % 4) % 4 = j % 4 by omega, ord_of ho (by omega), show 4 * (j / 4) + j % 4 = j by omega] at this
  rw [this, partM_nth (by rw [ord_len ho]; exact hj)]
end
set_option maxRecDepth 100000 in
set_option maxHeartbeats 2000000 in
theorem rrenum_any (S M : List Int) (L : Int) (aS aM : Option Addr) (cS cM : Nat) (aO : Option Addr) (cO : Nat) (o : List Nat) (w : World) (hv : vldB S M L = true) (ho : o.Perm (List.range S.length)) (hS : IntsAt w aS S) (hM : IntsAt w aM M) (hO : IntsAt w aO (nats o)) :
    Calls Tryd.prog 55 #[.agg #[.slice aS S.length cS, .slice aM M.length cM, .int .i64 L], .slice aO o.length cO] w fun e w' => ∃ a b c d, e = .returned (.agg #[.slice a S.length c, .slice b M.length d, .int .i64 L]) ∧ Own w' w.heap.size 3 a c (ints (partS S o)) ∧ Own w' w.heap.size 3 b d (ints (partM M o)) ∧ Below w.heap.size w w' := by
  have hs := vldB_shape hv
  have hfw := hs.few
  have HMT : Hid (∀ x, x < 4 * S.length → mt M x < 4 * S.length) := Lib.hid fun x hx => hs.mt_lt hx
  have HMR : Hid (∀ x, x < 4 * S.length → nth M x = (mt M x : Int)) := Lib.hid fun x hx => by
    have := hs.range x hx
    unfold mt; omega
  have HOo := Lib.hid ho
  have hol := ord_len ho
  have HS := Lib.hid hS
  have HM := Lib.hid hM
  have HO := Lib.hid hO
  have HMl := Lib.hid hs.len
  have HSb : Hid (∀ c, -1 ≤ nth S c ∧ nth S c ≤ 1) := Lib.hid fun c => hs.signBd c
  have hr0 : RnA w ((((w.alloc (.cells #[.slice aS S.length cS, .slice aM M.length cM, .int .i64 L] 24)).alloc (.cells #[.slice none 0 0, .slice none 0 0, .int .i64 0] 24))).alloc (.cells (Array.replicate S.length (.int .i64 0)) 3)) [.slice aS S.length cS, .slice aM M.length cM, .int .i64 L] (w.heap.size + 2) (List.replicate S.length 0) := by
    have h := Lib.hid (((((HH.start w).alloc #[.slice aS S.length cS, .slice aM M.length cM, .int .i64 L] 24 rfl rfl).alloc #[.slice none 0 0, .slice none 0 0, .int .i64 0] 24 (b := w.heap.size + 1) (by simp) rfl)).alloc (Array.replicate S.length (.int .i64 0)) 3 (b := w.heap.size + 2) (by simp) (vs := ints (List.replicate S.length 0)) (replicate_ints _))
    exact ⟨h.out.row (k := 2) rfl, h.out.row (k := 0) rfl, h.out.row (k := 1) rfl, h.out.below, Nat.le_refl _⟩
  have HA0 := Lib.hid hr0
  have hc0 := fun W (o : Obj) (h : (World.alloc W o).heap.size = W.heap.size + 1) => h
  clear hc0 hr0
  have hmk1 := run_mk S.length (by omega)
  have hmk2 := run_mk (4 * S.length) (by omega)
  simp only [show ((4 * S.length : Nat) : Int) = 4 * (S.length : Int) from by omega] at hmk2
  have H0 := Lib.hid (((HH.start w).alloc #[.slice aS S.length cS, .slice aM M.length cM, .int .i64 L] 24 rfl rfl).alloc #[.slice none 0 0, .slice none 0 0, .int .i64 0] 24 (b := w.heap.size + 1) (by simp) rfl)
  clear hs hS hM hO hv ho
  have k0 := H0.out.cell (k := 0) (i := 0) rfl rfl
  have hN1 : 4 * S.length ≤ M.length := by have := HMl.out; omega
  have hN2 : M.length ≤ 4 * S.length := by have := HMl.out; omega
  have ho1 : S.length ≤ o.length := by omega
  have ho2 : o.length ≤ S.length := by omega
  have Hol := Lib.hid hol
  clear hol
  go_enter Tryd.func55, Tryd.ntmps55
  go_wp2_with fail
  clear k0 H0
  go_loopg [7] S.length (fun g v wr => ∃ (i : Nat) (ns : List Int), i ≤ S.length ∧ g = S.length - i ∧ v = .int .i64 (i : Int) ∧ Hid (AtF S.length o i ns) ∧ RnA w wr [.slice aS S.length cS, .slice aM M.length cM, .int .i64 L] (w.heap.size + 2) ns)
  case atStart => exact ⟨0, _, Nat.zero_le _, rfl, rfl, Lib.hid ⟨by simp, fun j hj => by omega⟩, HA0.out⟩
  case round =>
    obtain ⟨i, ns, hi, rfl, rfl, Hat, hh⟩ := hrel
    have HA := Lib.hid hh
    clear hh HA0
    by_cases hil : i < S.length
    · obtain ⟨b, hb⟩ : ∃ b, b = o.getD i 0 := ⟨_, rfl⟩
      have hbc : b < S.length := by rw [hb]; exact ord_lt HOo.out (getD_mem (by omega))
      have Hat2 := Lib.hid (Hat.out.next (ord_nd HOo.out) (by omega) (by rw [← hb]; exact hbc))
      rw [← hb] at Hat2
      obtain ⟨bo, oo, rfl, _, hcO⟩ := (HO.out.later HA.out.below).open (by rw [nats_length]; omega)
      have hco := hcO i (by rw [nats_length]; omega)
      rw [nth_nats _ _ (by omega), ← hb] at hco
      clear hcO hb
      have hb0 := HA.out.N.int b (by rw [Hat.out.1]; exact hbc)
      have hf0 := HA.out.N.frozen b
      have HA2 := Lib.hid (HA.out.set b (i : Int))
      clear HA
      generalize nth ns b = xo at *
      go_wp2_with fail
      go_roundg (S.length - (i + 1))
      case measure => omega
      case rel => exact ⟨i + 1, _, by omega, rfl, by go_num, Lib.hid Hat2.out, HA2.out⟩
    · obtain rfl : i = S.length := by omega
      clear hil hi
      have HAt : Hid (∀ c, c < S.length → nth ns c = ((o.idxOf c : Nat) : Int)) := Lib.hid fun c hc => by
        have h := Hat.out
        rw [← Hol.out] at h
        have := AtF.of (n := o.length) h (ord_in HOo.out hc)
        exact this
      have Hnl : Hid (ns.length = S.length) := Lib.hid Hat.out.1
      have hl0 := HA.out.box.cell 2
      have hl1 := fun o => (HA.out.box.alloc o).cell 2
      have hl2 := fun o o' => ((HA.out.box.alloc o).alloc o').cell 2
      have hl3 := fun o o' o'' => (((HA.out.box.alloc o).alloc o').alloc o'').cell 2
      simp only [List.getElem?_cons_succ, List.getElem?_cons_zero] at hl0 hl1 hl2 hl3
      go_upto_region 7 with fail
      go_cut [8] (fun s8 wx => ∃ bD bS bM, s8 = .pointer (some ⟨bD, 0, none⟩) ∧ RnB w wx [.slice aS S.length cS, .slice aM M.length cM, .int .i64 L] (w.heap.size + 2) ns L S.length (4 * S.length) bD bS bM (List.replicate S.length 0) (List.replicate (4 * S.length) 0))
      case first =>
        go_region
        all_goals (go_wp2_with fail; go_meet)
        all_goals first
          | (refine ⟨_, wr.heap.size, wr.heap.size + 1, rfl, rnb_begin w wr _ _ _ HA.out _ _ _ _ _ _ L _ _ _ _ _ ?_ ?_ ?_ ?_⟩ <;> first | omega | (simp; done))
          | (refine ⟨_, wr.heap.size, wr.heap.size + 2, rfl, rnb_begin w wr _ _ _ HA.out _ _ _ _ _ _ L _ _ _ _ _ ?_ ?_ ?_ ?_⟩ <;> first | omega | (simp; done))
          | (refine ⟨_, wr.heap.size + 1, wr.heap.size, rfl, rnb_begin w wr _ _ _ HA.out _ _ _ _ _ _ L _ _ _ _ _ ?_ ?_ ?_ ?_⟩ <;> first | omega | (simp; done))
          | (refine ⟨_, wr.heap.size + 1, wr.heap.size + 2, rfl, rnb_begin w wr _ _ _ HA.out _ _ _ _ _ _ L _ _ _ _ _ ?_ ?_ ?_ ?_⟩ <;> first | omega | (simp; done))
          | (refine ⟨_, wr.heap.size + 2, wr.heap.size, rfl, rnb_begin w wr _ _ _ HA.out _ _ _ _ _ _ L _ _ _ _ _ ?_ ?_ ?_ ?_⟩ <;> first | omega | (simp; done))
          | (refine ⟨_, wr.heap.size + 2, wr.heap.size + 1, rfl, rnb_begin w wr _ _ _ HA.out _ _ _ _ _ _ L _ _ _ _ _ ?_ ?_ ?_ ?_⟩ <;> first | omega | (simp; done))
      case rest =>
        obtain ⟨bD, bS, bM, rfl, hB⟩ := hcut
        have HB0 := Lib.hid hB
        clear hB hmk1 hmk2 hl0 hl1 hl2 hl3 HA Hat
        go_wp2_with fail
        go_loopg [9] S.length (fun g v wr => ∃ (c : Nat) (xs : List Int), c ≤ S.length ∧ g = S.length - c ∧ v = .int .i64 (c : Int) ∧ Hid (SgF S o c xs) ∧ RnB w wr [.slice aS S.length cS, .slice aM M.length cM, .int .i64 L] (w.heap.size + 2) ns L S.length (4 * S.length) bD bS bM xs (List.replicate (4 * S.length) 0))
        case atStart => exact ⟨0, _, Nat.zero_le _, rfl, rfl, Lib.hid ⟨by simp, fun d hd => by omega⟩, HB0.out⟩
        case round =>
          obtain ⟨c, xs, hc, rfl, rfl, Hsg, hB⟩ := hrel
          have HBb := Lib.hid hB
          clear hB HB0
          by_cases hcl : c < S.length
          · obtain ⟨bs, os, rfl, _, hcS⟩ := (HS.out.later HBb.out.A.below).open (by omega)
            have hcs := hcS c hcl
            obtain ⟨x, hx⟩ : ∃ x, x = o.idxOf c := ⟨_, rfl⟩
            have hxl : x < S.length := by rw [hx]; exact ord_idx HOo.out hcl
            have hcN := HBb.out.A.N.int c (by rw [Hnl.out]; exact hcl)
            rw [HAt.out c hcl, ← hx] at hcN
            have hcD := HBb.out.D.cell 0
            have hcB := HBb.out.A.box.cell 0
            simp only [List.getElem?_cons_zero] at hcD hcB
            have hcX := HBb.out.S.int x (by rw [Hsg.out.1]; exact hxl)
            have hfX := HBb.out.S.frozen x
            have Hsg2 := Lib.hid (Hsg.out.next HOo.out rfl hcl)
            rw [← hx] at Hsg2
            have Hst := Lib.hid (HBb.out.setS x (nth S c))
            generalize nth S c = sv at *
            generalize nth xs x = xo at *
            clear hcS hx HBb
            go_wp2_with fail
            go_region
            all_goals
              clear hcs hcD hcB hcX hfX hcN
              go_wp2_with fail
              go_roundg (S.length - (c + 1))
              case measure => omega
              case rel => exact ⟨c + 1, _, by omega, rfl, by go_num, Lib.hid Hsg2.out, Hst.out⟩
          · obtain rfl : c = S.length := by omega
            clear hcl hc
            go_wp2_with fail
            go_loopg [10] (4 * S.length) (fun g v wr => ∃ (h : Nat) (ys : List Int), h ≤ 4 * S.length ∧ g = 4 * S.length - h ∧ v = .int .i64 (h : Int) ∧ Hid (MtF M o S.length h ys) ∧ RnB w wr [.slice aS S.length cS, .slice aM M.length cM, .int .i64 L] (w.heap.size + 2) ns L S.length (4 * S.length) bD bS bM xs ys)
            case atStart => exact ⟨0, _, Nat.zero_le _, rfl, rfl, Lib.hid ⟨by simp, fun d hd => by omega⟩, HBb.out⟩
            case round =>
              obtain ⟨h, ys, hh4, rfl, rfl, Hmt, hB⟩ := hrel
              replace HBb := Lib.hid hB
              clear hB
              by_cases hhl : h < 4 * S.length
              · obtain ⟨bm, om, rfl, _, hcM⟩ := (HM.out.later HBb.out.A.below).open (by omega)
                have hcm := hcM h (by omega)
                have hml := HMT.out h hhl
                rw [HMR.out h hhl] at hcm
                obtain ⟨m, hm⟩ : ∃ m, m = mt M h := ⟨_, rfl⟩
                rw [← hm] at hcm hml
                obtain ⟨x, hx⟩ : ∃ x, x = o.idxOf (h / 4) := ⟨_, rfl⟩
                obtain ⟨y, hy⟩ : ∃ y, y = o.idxOf (m / 4) := ⟨_, rfl⟩
                have hxl : x < S.length := by rw [hx]; exact ord_idx HOo.out (by omega)
                have hyl : y < S.length := by rw [hy]; exact ord_idx HOo.out (by omega)
                have hcN1 := HBb.out.A.N.int (h / 4) (by rw [Hnl.out]; omega)
                rw [HAt.out (h / 4) (by omega), ← hx] at hcN1
                have hcN2 := HBb.out.A.N.int (m / 4) (by rw [Hnl.out]; omega)
                rw [HAt.out (m / 4) (by omega), ← hy] at hcN2
                have hcD := HBb.out.D.cell 1
                have hcB := HBb.out.A.box.cell 1
                simp only [List.getElem?_cons_succ, List.getElem?_cons_zero] at hcD hcB
                have hcX := HBb.out.M.int (4 * x + h % 4) (by rw [Hmt.out.1]; omega)
                have hfX := HBb.out.M.frozen (4 * x + h % 4)
                have Hmt2 := Lib.hid (Hmt.out.next HOo.out hhl)
                have Hpv : Hid (partV M o h = 4 * (y : Int) + (m : Int) % 4) := Lib.hid (by
                  unfold partV idxI
                  rw [← hm, ← hy]; omega)
                rw [← hx, Hpv.out] at Hmt2
                have Hst := Lib.hid (HBb.out.setM (4 * x + h % 4) (4 * (y : Int) + (m : Int) % 4))
                generalize nth ys (4 * x + h % 4) = xo at *
                clear hcM hx hy hm HBb Hpv
                go_upto_region 16 with fail
                go_region
                all_goals
                  clear hcm hcD hcB hcX hfX hcN1 hcN2
                  go_wp2_with fail
                  go_roundg (4 * S.length - (h + 1))
                  case measure => omega
                  case rel => exact ⟨h + 1, _, by omega, rfl, by go_num, Lib.hid Hmt2.out, Hst.out⟩
              · obtain rfl : h = 4 * S.length := by omega
                have HE1 := Lib.hid (Hsg.out.all HOo.out rfl)
                have HE2 := Lib.hid (Hmt.out.all HOo.out)
                have HA := HBb.out.A
                have hcD0 := HBb.out.D.cell 0
                have hcD1 := HBb.out.D.cell 1
                have hcD2 := HBb.out.D.cell 2
                have hcR0 := HA.res.cell 0
                have hcR1 := HA.res.cell 1
                have hcR2 := HA.res.cell 2
                have hfR0 := HA.res.frozen 0
                have hfR1 := HA.res.frozen 1
                have hfR2 := HA.res.frozen 2
                simp only [List.getElem?_cons_succ, List.getElem?_cons_zero] at hcD0 hcD1 hcD2 hcR0 hcR1 hcR2
                have HAh := Lib.hid HA
                clear HA
                go_wp2_with fail
                obtain ⟨Wf, hWf⟩ : ∃ Wf, Wf = ((wr.setCell ⟨w.heap.size + 1, 0, none⟩ (.slice (some ⟨bS, 0, none⟩) S.length S.length)).setCell ⟨w.heap.size + 1, 1, none⟩ (.slice (some ⟨bM, 0, none⟩) (4 * S.length) (4 * S.length))).setCell ⟨w.heap.size + 1, 2, none⟩ (.int .i64 L) := ⟨_, rfl⟩
                rw [← hWf]
                have hRf : Row Wf (w.heap.size + 1) 24 [.slice (some ⟨bS, 0, none⟩) S.length S.length, .slice (some ⟨bM, 0, none⟩) (4 * S.length) (4 * S.length), .int .i64 L] := by
                  rw [hWf]; exact res_set HAh.out.res _ _ _
                have Hfin : Hid (Row Wf bS 3 (ints xs) ∧ Row Wf bM 3 (ints ys) ∧ Below w.heap.size w Wf) := Lib.hid (by
                  obtain ⟨⟨a1, a2, a3, a4, a5⟩, k1, k2, k3, k4, k5⟩ := HBb.out
                  rw [hWf]
                  exact ⟨((k2.setOther _ _ (by simp; omega)).setOther _ _ (by simp; omega)).setOther _ _ (by simp; omega), ((k3.setOther _ _ (by simp; omega)).setOther _ _ (by simp; omega)).setOther _ _ (by simp; omega), ((a4.setCell (by simp) _).setCell (by simp) _).setCell (by simp) _⟩)
                have hF0 := hRf.cell 0
                have hF1 := hRf.cell 1
                have hF2 := hRf.cell 2
                simp only [List.getElem?_cons_succ, List.getElem?_cons_zero] at hF0 hF1 hF2
                clear hWf hRf hcD0 hcD1 hcD2 hcR0 hcR1 hcR2 hfR0 hfR1 hfR2
                refine bodyPost_ret (v := .agg #[.slice (some ⟨bS, 0, none⟩) S.length S.length, .slice (some ⟨bM, 0, none⟩) (4 * S.length) (4 * S.length), .int .i64 L]) (by simp [results, Tryd.results55, go_sem, hF0, hF1, hF2]) rfl ?_
                refine ⟨some ⟨bS, 0, none⟩, some ⟨bM, 0, none⟩, S.length, 4 * S.length, by rw [HMl.out], ?_, ?_, Hfin.out.2.2⟩
                · rw [← HE1.out]
                  have := Hfin.out.1.own (B := w.heap.size) (by have := HBb.out.lo; omega)
                  rwa [ints_length, Hsg.out.1] at this
                · rw [← HE2.out]
                  have := Hfin.out.2.1.own (B := w.heap.size) (by have := HBb.out.lo; omega)
                  rwa [ints_length, Hmt.out.1] at this
end Go.Proofs.YtmhhjchnjaefhaaDoor

namespace Go.Proofs.YtmhhjchnjaefhaaDoor
open Go Go.RowKit
/-- The numbering of the first i roots. -/
def ordF (M : List Int) (n : Nat) (rs : List Nat) (i : Nat) : List Nat := (rs.take i).flatMap fun r => ordL M r n
theorem ordF_succ (M : List Int) (n : Nat) {rs : List Nat} {i : Nat} (h : i < rs.length) : ordF M n rs (i + 1) = ordF M n rs i ++ ordL M (rs.getD i 0) n := by
  unfold ordF
  rw [List.take_add_one, getD_some (d := 0) h, List.flatMap_append]
  simp
theorem ordF_few (M : List Int) (n : Nat) {rs : List Nat} (hc : ∀ r, r ∈ rs → (ordL M r n).length ≤ 64) : ∀ i, i ≤ rs.length → (ordF M n rs i).length ≤ i * 64 := fun i => by
  induction i with
  | zero => intro _; simp [ordF]
  | succ i ih =>
    intro hi
    have h1 := ih (by omega)
    have h2 := hc _ (getD_mem (o := rs) (i := i) (by omega))
    rw [ordF_succ M n (by omega), List.length_append]
    omega
set_option maxRecDepth 100000 in
set_option maxHeartbeats 2000000 in
theorem rform_any (S M : List Int) (L : Int) (aS aM : Option Addr) (cS cM : Nat) (w : World) (hv : vldB S M L = true) (hS : IntsAt w aS S) (hM : IntsAt w aM M) :
    Calls Tryd.prog 31 #[.agg #[.slice aS S.length cS, .slice aM M.length cM, .int .i64 L]] w fun e w' => ∃ a b c d, e = .returned (.agg #[.slice a S.length c, .slice b M.length d, .int .i64 L]) ∧ IntsAt w' a (fmS S M) ∧ IntsAt w' b (fmM S M) ∧ Below w.heap.size w w' := by
  have hs := vldB_shape hv
  have hfw := hs.few
  have hmo := hs.mates
  have hmt : ∀ x, x < 4 * S.length → mt M x < 4 * S.length := fun x hx => hs.mt_lt hx
  have hmr : ∀ x, x < 4 * S.length → nth M x = (mt M x : Int) := fun x hx => by
    have := hs.range x hx
    unfold mt; omega
  have hMl := hs.len
  have HRo : Hid (∀ W', Below w.heap.size w W' → Calls Tryd.prog 45 #[.agg #[.slice aS S.length cS, .slice aM M.length cM, .int .i64 L]] W' fun e w' => ∃ A C rs, e = .returned (.slice A rs.length C) ∧ IntsAt w' A (nats rs) ∧ rs.length ≤ 64 ∧ Hid ((∀ r, r ∈ rs → r < S.length ∧ (ordL M r S.length).length ≤ 64) ∧ (∀ (a : Option Addr) (c : Nat) W'', Below w.heap.size w W'' → IntsAt W'' a (nats (ordF M S.length rs rs.length)) → Calls Tryd.prog 55 #[.agg #[.slice aS S.length cS, .slice aM M.length cM, .int .i64 L], .slice a (ordF M S.length rs rs.length).length c] W'' fun e w' => ∃ a b c d, e = .returned (.agg #[.slice a S.length c, .slice b M.length d, .int .i64 L]) ∧ Own w' W''.heap.size 3 a c (ints (fmS S M)) ∧ Own w' W''.heap.size 3 b d (ints (fmM S M)) ∧ Below W''.heap.size W'' w')) ∧ Below W'.heap.size W' w') := Lib.hid fun W' h => by
    refine (roots_any S M L aS aM cS cM W' hv (hS.later h) (hM.later h)).mono ?_
    rintro e w' ⟨A, C, rs, rfl, hr, ho, hb⟩
    have hp := hr.out.perm
    obtain ⟨f1, f2, f3⟩ := rts_form hmo hmt hr.out hs rfl
    have e0 : ordF M S.length rs rs.length = rs.flatMap fun r => ordL M r S.length := by unfold ordF; rw [List.take_length]
    refine ⟨A, C, rs, rfl, ho.ints, ?_, Lib.hid ⟨fun r hrr => ?_, fun a c W'' h2 h3 => ?_⟩, hb⟩
    · rw [hp.length_eq, List.length_map, List.length_take]
      have := grp_len M S.length; omega
    · obtain ⟨_, _, _, _, hlt⟩ := rts_of hmo hmt hr.out hrr
      have : (ordL M r S.length).length ≤ S.length := ordTo_len hmt hlt S.length
      exact ⟨hlt, by omega⟩
    · rw [e0] at h3 ⊢
      rw [← f2, ← f3]
      exact rrenum_any S M L aS aM cS cM a c _ W'' hv f1 (hS.later h2) (hM.later h2) h3
  have HN : Hid (∀ r W', r < S.length → Below w.heap.size w W' → Calls Tryd.prog 47 #[.slice aM M.length cM, .int .i64 (r : Int)] W' fun e w' => ∃ A C, e = .returned (.slice A (ordL M r S.length).length C) ∧ Own w' W'.heap.size 3 A C (ints (nats (ordL M r S.length))) ∧ Below W'.heap.size W' w') := Lib.hid fun r W' hr h => numbering_any M S.length r aM cM W' hfw hs.len hmt hmr hr (hM.later h)
  have H0 := Lib.hid (((HH.start w).alloc #[.slice aS S.length cS, .slice aM M.length cM, .int .i64 L] 24 rfl rfl).alloc #[.slice none 0 0, .slice none 0 0, .int .i64 0] 24 (b := w.heap.size + 1) (by simp) rfl)
  clear hs hmo hmt hmr hMl hv hS hM
  generalize fmS S M = FSz at *
  generalize fmM S M = FM at *
  generalize S.length = n at *
  generalize M.length = N at *
  go_enter Tryd.func31, Tryd.ntmps31
  have k00 := H0.out.cell (k := 0) (i := 0) rfl rfl
  have k01 := H0.out.cell (k := 0) (i := 1) rfl rfl
  have k02 := H0.out.cell (k := 0) (i := 2) rfl rfl
  go_wp2_with fail
  clear k00 k01 k02
  refine (HRo.out _ H0.out.below).mono ?_
  rintro e w2 ⟨aR, cR, rs, rfl, hri, hrl, HR, hb⟩
  have H2 := Lib.hid (H0.out.call hb)
  have HRI := Lib.hid hri
  clear hb H0 HRo hri
  have HRd : Hid (∀ W', Below w2.heap.size w2 W' → (W'.cell? ⟨w.heap.size, 0, none⟩ = some (.slice aS n cS) ∧ W'.cell? ⟨w.heap.size, 1, none⟩ = some (.slice aM N cM) ∧ W'.cell? ⟨w.heap.size, 2, none⟩ = some (.int .i64 L))) := Lib.hid fun W' h => by
    have h1 := H2.out.call h
    exact ⟨h1.cell (k := 0) (i := 0) rfl rfl, h1.cell (k := 0) (i := 1) rfl rfl, h1.cell (k := 0) (i := 2) rfl rfl⟩
  have HBw := Lib.hid H2.out.below
  have HD : Hid (∀ W', Below w2.heap.size w2 W' → Below w.heap.size w W') := Lib.hid fun W' h => below_of HBw.out h HBw.out.size
  have J0 : Hid (HH w2 w2 [] [⟨none, 0, 3, ints (nats (ordF M n rs 0))⟩]) := Lib.hid ((HH.start w2).addNil 3)
  have Hcf : Hid (∀ i, i ≤ rs.length → (ordF M n rs i).length ≤ 100000) := Lib.hid fun i hi => by
    have h1 := ordF_few M n (fun r hr => (HR.out.1 r hr).2) i hi
    omega
  go_wp2_with fail
  go_loopg [5, 4] rs.length (fun g v s4 wr => ∃ (i : Nat) (A2 : Option Addr) (d : Nat), i ≤ rs.length ∧ g = rs.length - i ∧ v = .int .i64 i ∧ s4 = .slice A2 (ordF M n rs i).length d ∧ HH w2 wr [] [⟨A2, d, 3, ints (nats (ordF M n rs i))⟩])
  case atStart => exact ⟨0, none, 0, Nat.zero_le _, rfl, rfl, rfl, J0.out⟩
  case round =>
    obtain ⟨i, A2, d, hi, rfl, rfl, rfl, hh⟩ := hrel
    have Hh := Lib.hid hh
    clear hh J0
    by_cases hil : i < rs.length
    · obtain ⟨r, hr⟩ : ∃ r, r = rs.getD i 0 := ⟨_, rfl⟩
      have hrn : r < n := by rw [hr]; exact (HR.out.1 _ (getD_mem hil)).1
      have hcl : (ordL M r n).length ≤ 64 := by rw [hr]; exact (HR.out.1 _ (getD_mem hil)).2
      have HC1 := Lib.hid (ordF_succ M n hil)
      rw [← hr] at HC1
      have hcy := Hcf.out i hi
      have Hcell : Hid (∃ bR oR, aR = some ⟨bR, oR, none⟩ ∧ ∀ W', Below w2.heap.size w2 W' → W'.cell? ⟨bR, oR + i, none⟩ = some (.int .i64 (r : Int))) := Lib.hid (by
        obtain ⟨bR, oR, e, _, hc⟩ := HRI.out.open (by rw [nats_length]; omega)
        refine ⟨bR, oR, e, fun W' h => ?_⟩
        have := hc i (by rw [nats_length]; exact hil)
        rw [nth_nats _ _ hil, ← hr] at this
        exact (h.cell (World.block_lt_of_cell? _ _ this)).trans this)
      clear hr
      obtain ⟨bR, oR, rfl, hcx⟩ := Hcell.out
      obtain ⟨_, y1, _⟩ := HRd.out wr Hh.out.below
      have y2 := hcx wr Hh.out.below
      have HDw : Hid (∀ W', Below wr.heap.size wr W' → Below w.heap.size w W') := Lib.hid fun W' h => HD.out _ (below_of Hh.out.below h Hh.out.below.size)
      have B0 : Hid (Below wr.heap.size wr wr.drew) := Lib.hid (Below.refl _ _).drew
      clear hcx Hcell
      generalize hcy2 : ordF M n rs (i + 1) = cy2 at *
      have HY := Lib.hid hcy2
      clear hcy2
      generalize ordF M n rs i = cy at *
      have HF2 := Lib.hid (HN.out r)
      generalize ordL M r n = cr at *
      have Hln : Hid ((nats cy).length = cy.length) := Lib.hid (nats_length _)
      have Hlr : Hid ((nats cr).length = cr.length) := Lib.hid (nats_length _)
      go_upto_region 6 with fail
      go_region_law (first
        | (refine step_app rfl (.tmp 14) (.tmp 21) rfl w2.heap.size A2 cy.length d (nats cy) rfl Hln.out (N1.out.sl (k := 0) rfl) A1 cr.length C1 (nats cr) rfl Hlr.out (N1.out.sl (k := 1) rfl).ints (by omega) N1.out.below.size ?_; intro A7 e7 w8 hO7 hT7 hA7; have H9 := Lib.hid ((N1.out.grow (k := 0) rfl hO7 hT7 hA7).forget (s' := [⟨A7, e7, 3, ints (nats cy ++ nats cr)⟩]) (List.Sublist.cons_cons _ (List.nil_sublist _))); clear hO7 hT7 hA7)
        | (go_simp; (with_reducible refine (HF2.out _ hrn (HDw.out _ B0.out)).mono ?_); rintro e z1 ⟨A1, C1, rfl, n1, hb⟩; have B1 := Lib.hid (B0.out.trans (hb.mono B0.out.size)); have N1 := Lib.hid (Hh.out.addSl B1.out (n1.mono B0.out.size)); clear hb n1))
      all_goals
        clear y1 y2 HDw B0 HF2 Hh N1 B1
        have e9 : nats cy ++ nats cr = nats cy2 := by rw [HC1.out]; simp [nats]
        rw [e9] at H9
        clear e9
        have Hl3 : Hid (cy2.length = cy.length + cr.length) := Lib.hid (by rw [HC1.out, List.length_append])
        go_wp2_with fail
        go_roundg (rs.length - (i + 1))
        case measure => omega
        case rel => exact ⟨i + 1, A7, e7, by omega, rfl, by go_num, by rw [HY.out, Hl3.out], by rw [HY.out]; exact H9.out⟩
    · obtain rfl : i = rs.length := by omega
      obtain ⟨y0, y1, y2⟩ := HRd.out wr Hh.out.below
      go_wp2_with fail
      clear y0 y1 y2
      refine (HR.out.2 A2 d wr (HD.out _ Hh.out.below) (Hh.out.sl (k := 0) rfl).ints).mono ?_
      rintro e zf ⟨a, b, c, d2, rfl, o1, o2, hb⟩
      have H9 := Lib.hid (H2.out.call (below_of Hh.out.below hb Hh.out.below.size))
      have O1 := Lib.hid o1
      have O2 := Lib.hid o2
      have Hlt : Hid (w.heap.size + 1 < wr.heap.size) := Lib.hid (Nat.lt_of_lt_of_le (H2.out.lt (x := (w.heap.size + 1, rowO 24 [.slice none 0 0, .slice none 0 0, .int .i64 0])) (by simp)) Hh.out.below.size)
      clear o1 o2 hb Hh
      have k10 := H9.out.cell (k := 1) (i := 0) rfl rfl
      have k11 := H9.out.cell (k := 1) (i := 1) rfl rfl
      have k12 := H9.out.cell (k := 1) (i := 2) rfl rfl
      have f10 := H9.out.frozen (k := 1) rfl 0
      have f11 := H9.out.frozen (k := 1) rfl 1
      have f12 := H9.out.frozen (k := 1) rfl 2
      have H10 := (((H9.out.set (k := 1) rfl 0 (.slice a n c)).set (k := 1) rfl 1 (.slice b N d2)).set (k := 1) rfl 2 (.int .i64 L))
      have hF10 := H10.cell (k := 1) (i := 0) rfl rfl
      have hF11 := H10.cell (k := 1) (i := 1) rfl rfl
      have hF12 := H10.cell (k := 1) (i := 2) rfl rfl
      have Hfin := Lib.hid H10
      have Hk : Hid (∀ (xs : List Int) (a' : Option Addr) (c' : Nat), Own zf wr.heap.size 3 a' c' (ints xs) → IntsAt (((zf.setCell ⟨w.heap.size + 1, 0, none⟩ (.slice a n c)).setCell ⟨w.heap.size + 1, 1, none⟩ (.slice b N d2)).setCell ⟨w.heap.size + 1, 2, none⟩ (.int .i64 L)) a' xs) := Lib.hid fun xs a' c' h => h.ints.keptB fun x hx => by
        have h1 := (h.lt hx).1
        have h2 := Hlt.out
        have hne : x.block ≠ w.heap.size + 1 := by omega
        rw [Below.heap_setCell _ ⟨w.heap.size + 1, 2, none⟩ _ _ hne, Below.heap_setCell _ ⟨w.heap.size + 1, 1, none⟩ _ _ hne, Below.heap_setCell _ ⟨w.heap.size + 1, 0, none⟩ _ _ hne]
      clear H10
      go_wp2_with fail
      refine bodyPost_ret (v := .agg #[.slice a n c, .slice b N d2, .int .i64 L]) (by simp [results, Tryd.results31, go_sem, hF10, hF11, hF12]) rfl ?_
      exact ⟨a, b, c, d2, rfl, Hk.out _ _ _ O1.out, Hk.out _ _ _ O2.out, Hfin.out.below⟩
end Go.Proofs.YtmhhjchnjaefhaaDoor

