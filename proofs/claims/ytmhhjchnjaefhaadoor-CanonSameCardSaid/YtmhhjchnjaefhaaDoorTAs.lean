/- The reference: Roots, a crossing for each piece in the order of the code. The reference: Code. -/
import Derived.WalkKit
import Derived.WalkSpells
import Derived.WalkLawsBesides
import Derived.Deep.AppendSrc
import Derived.Deep.LoopGhost
import Derived.Deep.QuietTactic
import Derived.Deep.RegionWith
import Derived.Deep.DeepMust
import Derived.Deep.DeepFit
import Derived.BigQuiet
import Derived.Lib.Hide
import Derived.Outline
import Derived.Test.YtmhhjchnjaefhaaDoorProg
import Derived.Deep.Matrix
import Derived.Deep.DeepCutAuto
import Derived.Deep.RegionLaw
import Derived.Deep.RegionHeld3
import Derived.Lib.SliceRun
import Derived.Shelf.Strings.Builder1
import Derived.Shelf.Small.Wraps
import Derived.Shelf.Strings.BuilderF
import Derived.Shelf.Strings.BuilderK
import Derived.Shelf.Strconv.Itoa0
import Derived.Shelf.Strconv.Itoa1
import Derived.Shelf.LaysM
import Derived.Shelf.Strconv.Itoa2
import Derived.Shelf.Strconv.Itoa3
import Derived.Shelf.Slices.Equal
import Derived.Ground.Names2Prog
import Derived.Shelf.Slices.Clone
import Derived.Shelf.Slices.SearchI
import Derived.Shelf.Slices.Empties2
import Derived.Ground.SlgnProg
import Derived.Shelf.SlicesE.Clone
import Derived.Sort.OwnSortedInts
import Derived.Shelf.Small.Bits
import Derived.Shelf.Sort.Plain
import Derived.Shelf.Slices.Turned
import Derived.Shelf.Slices.CompactI
import Derived.Shelf.Slices.Cells
import Derived.Shelf.Slices.In.SortNone
import Derived.Lib.AppendZeros
import Derived.Deep.RegionHeld
import Derived.Test.YtmhhjchnjaefhaaDoorTAa
import Derived.Test.YtmhhjchnjaefhaaDoorTAb
import Derived.Test.YtmhhjchnjaefhaaDoorTAc
import Derived.Test.YtmhhjchnjaefhaaDoorTAd
import Derived.Test.YtmhhjchnjaefhaaDoorTAe
import Derived.Test.YtmhhjchnjaefhaaDoorTAf
import Derived.Test.YtmhhjchnjaefhaaDoorTAg
import Derived.Test.YtmhhjchnjaefhaaDoorTAh
import Derived.Test.YtmhhjchnjaefhaaDoorTAi
import Derived.Test.YtmhhjchnjaefhaaDoorTAj
import Derived.Test.YtmhhjchnjaefhaaDoorTAk
import Derived.Test.YtmhhjchnjaefhaaDoorTAl
import Derived.Test.YtmhhjchnjaefhaaDoorTAm
import Derived.Test.YtmhhjchnjaefhaaDoorTAn
import Derived.Test.YtmhhjchnjaefhaaDoorTAo
import Derived.Test.YtmhhjchnjaefhaaDoorTAp
import Derived.Test.YtmhhjchnjaefhaaDoorTAq
import Derived.Test.YtmhhjchnjaefhaaDoorTAr
namespace Go.Proofs.YtmhhjchnjaefhaaDoor
open Go Go.RowKit
namespace HH
variable {w0 w w' : World} {l : Kn} {s : List SlO}
theorem slSet (h : HH w0 w l s) {k b off c : Nat} {E : TypeId} {vs : List Value} (hk : nthO s k = some ⟨some ⟨b, off, none⟩, c, E, vs⟩) (i : Nat) (hi : i < vs.length) (u : Value) : HH w0 (w.setCell ⟨b, off + i, none⟩ u) l (setO s k ⟨some ⟨b, off, none⟩, c, E, vs.set i u⟩) := by
  refine h.grow hk ((h.sl hk).set i hi u) ⟨rfl, rfl, rfl, by simp, fun j _ hj => Below.heap_setCell w _ u j fun e => hj _ rfl e.symm⟩ fun x hx => .inr ⟨x, hx, rfl⟩
end HH
theorem ints_nats_set (l : List Nat) (i x : Nat) : (ints (nats l)).set i (.int .i64 (x : Int)) = ints (nats (l.set i x)) := by
  simp [ints, nats, List.map_set]
theorem ints_nats_get {l : List Nat} {i : Nat} (h : i < l.length) : (ints (nats l))[i]? = some (.int .i64 ((l.getD i 0 : Nat) : Int)) := by
  unfold ints nats
  rw [List.getElem?_map, List.getElem?_map, getD_some (d := 0) h]; rfl
/-- A list with one place more, at k. -/
def gap (rs : List Nat) (k z : Nat) : List Nat := rs.take k ++ z :: rs.drop k
theorem gap_len {rs : List Nat} {k z : Nat} (h : k ≤ rs.length) : (gap rs k z).length = rs.length + 1 := by
  unfold gap
  rw [List.length_append, List.length_cons, List.length_take, List.length_drop]; omega
theorem gap_end (rs : List Nat) (z : Nat) : gap rs rs.length z = rs ++ [z] := by
  unfold gap
  rw [List.take_length, List.drop_length]
theorem gap_set {rs : List Nat} {k z : Nat} (h : k ≤ rs.length) (x : Nat) : (gap rs k z).set k x = gap rs k x := by
  have e : (rs.take k).length = k := by rw [List.length_take]; omega
  unfold gap
  rw [List.set_append_right _ _ (by omega), e, Nat.sub_self]; rfl
theorem gap_get {rs : List Nat} {k z j : Nat} (h : k ≤ rs.length) (hj : j < k) : (gap rs k z).getD j 0 = rs.getD j 0 := by
  unfold gap
  rw [List.getD_eq_getElem?_getD, List.getD_eq_getElem?_getD, List.getElem?_append_left (by rw [List.length_take]; omega), List.getElem?_take_of_lt hj]
theorem gap_down {rs : List Nat} {k j : Nat} (h : k ≤ rs.length) (hk : k = j + 1) : gap rs k (rs.getD j 0) = gap rs j (rs.getD j 0) := by
  subst hk
  unfold gap
  rw [List.take_add_one, getD_some (d := 0) (show j < rs.length by omega), Option.toList_some, List.append_assoc]
  have e : rs.drop j = rs.getD j 0 :: rs.drop (j + 1) := by
    rw [List.drop_eq_getElem_cons (by omega), List.getD_eq_getElem?_getD, List.getElem?_eq_getElem (by omega)]; rfl
  rw [e]; rfl
set_option maxRecDepth 100000 in
set_option maxHeartbeats 2000000 in
theorem roots_any (S M : List Int) (L : Int) (aS aM : Option Addr) (cS cM : Nat) (w : World) (hv : vldB S M L = true) (hS : IntsAt w aS S) (hM : IntsAt w aM M) :
    Calls Tryd.prog 45 #[.agg #[.slice aS S.length cS, .slice aM M.length cM, .int .i64 L]] w fun e w' => ∃ A C rs, e = .returned (.slice A rs.length C) ∧ Hid (Rts S M S.length (grpOf M S.length).length rs) ∧ Own w' w.heap.size 3 A C (ints (nats rs)) ∧ Below w.heap.size w w' := by
  have hs := vldB_shape hv
  have hfw := hs.few
  have hmo := hs.mates
  have HMT : Hid (∀ x, x < 4 * S.length → mt M x < 4 * S.length) := Lib.hid fun x hx => hs.mt_lt hx
  have HGr : Hid (∀ W', Below w.heap.size w W' → Calls Tryd.prog 70 #[.slice aM M.length cM] W' fun e w' => ∃ a c, e = .returned (.slice a (grpOf M S.length).length c) ∧ OwnRows w' W'.heap.size a c ((grpOf M S.length).map nats) ∧ Below W'.heap.size W' w') := Lib.hid fun W' h => rgraph_any M S.length aM cM W' hfw hs.len hmo (hM.later h)
  have HF : Hid (∀ r W', r < S.length → Below w.heap.size w W' → Calls Tryd.prog 46 #[.agg #[.slice aS S.length cS, .slice aM M.length cM, .int .i64 L], .int .i64 (r : Int)] W' fun e w' => ∃ A C, e = .returned (.slice A (codeL S M r S.length).length C) ∧ IntsAt w' A (codeL S M r S.length) ∧ Below W'.heap.size W' w') := Lib.hid fun r W' hr h => (from_any S M L aS aM cS cM r W' hs hr (hS.later h) (hM.later h)).mono fun e w' ⟨A, C, e1, e2, e3⟩ => ⟨A, C, e1, e2.ints, e3⟩
  have HLs : Hid (∀ r s (a b : Option Addr) (c d : Nat) W', r < S.length → s < S.length → IntsAt W' a (codeL S M r S.length) → IntsAt W' b (codeL S M s S.length) → Calls Tryd.prog 71 #[.slice a (codeL S M r S.length).length c, .slice b (codeL S M s S.length).length d] W' fun e w' => e = .returned (.bool (lessB (codeL S M r S.length) (codeL S M s S.length))) ∧ Below W'.heap.size W' w') := Lib.hid fun r s a b c d W' hr hs h1 h2 => less_any _ _ a b c d W' (by
    rw [codeL_len]
    have := ordTo_len HMT.out hr S.length
    show 5 * (ordTo M r S.length).length ≤ _
    omega) h1 h2
  have HGl : Hid (∀ i, i < (grpOf M S.length).length → 0 < ((grpOf M S.length).getD i []).length ∧ ((grpOf M S.length).getD i []).length ≤ 64 ∧ (∀ c, c ∈ (grpOf M S.length).getD i [] → c < S.length)) := Lib.hid fun i hi => by
    have hm : (grpOf M S.length).getD i [] ∈ grpOf M S.length := by rw [List.getD_eq_getElem?_getD, List.getElem?_eq_getElem hi]; exact List.getElem_mem hi
    have hw := grp_whole hmo hm
    exact ⟨hw.2, Nat.le_trans (nodup_few S.length _ hw.1.nd hw.1.lt) hfw, hw.1.lt⟩
  have hgl64 : (grpOf M S.length).length ≤ 64 := by have := grp_len M S.length; omega
  have HRl : Hid (∀ i rs, Rts S M S.length i rs → rs.length ≤ 64 ∧ ∀ r, r ∈ rs → r < S.length) := Lib.hid fun i rs h => by
    refine ⟨?_, fun r hr => ?_⟩
    · rw [h.perm.length_eq, List.length_map, List.length_take]; omega
    · obtain ⟨G, hG, rfl⟩ := List.mem_map.1 (h.perm.mem_iff.1 hr)
      have hw := grp_whole hmo (List.mem_of_mem_take hG)
      exact hw.1.lt _ (bst_in hw.2)
  have HRn : Hid (∀ (k : Nat) (rs : List Nat) (p : Nat), Rts S M S.length k rs → k < (grpOf M S.length).length → p ≤ rs.length → (p = 0 ∨ lessB (codeL S M (bstTo S M S.length ((grpOf M S.length).getD k []) ((grpOf M S.length).getD k []).length) S.length) (codeL S M (rs.getD (p - 1) 0) S.length) = false) →
    (∀ i, p ≤ i → i < rs.length → lessB (codeL S M (bstTo S M S.length ((grpOf M S.length).getD k []) ((grpOf M S.length).getD k []).length) S.length) (codeL S M (rs.getD i 0) S.length) = true) →
    Rts S M S.length (k + 1) (gap rs p (bstTo S M S.length ((grpOf M S.length).getD k []) ((grpOf M S.length).getD k []).length))) := Lib.hid fun k rs p h hk hp h1 h2 => h.next hk hp h1 h2
  obtain ⟨i0, hi0, hz0, hz1, hz2⟩ := info_parts Tryd.info3
  have H0 := Lib.hid ((HH.start w).alloc #[.slice aS S.length cS, .slice aM M.length cM, .int .i64 L] 24 rfl rfl)
  clear hs hmo hv hS hM HMT
  generalize S.length = n at *
  generalize M.length = N at *
  obtain ⟨gs, hgs⟩ : ∃ gs, gs = grpOf M n := ⟨_, rfl⟩
  rw [← hgs] at HGr HGl HRn hgl64 ⊢
  clear hgs
  go_enter Tryd.func45, Tryd.ntmps45
  have k00 := H0.out.cell (k := 0) (i := 0) rfl rfl
  have k01 := H0.out.cell (k := 0) (i := 1) rfl rfl
  have k02 := H0.out.cell (k := 0) (i := 2) rfl rfl
  go_wp2_with fail
  clear k00 k01 k02
  refine (HGr.out _ H0.out.below).mono ?_
  rintro e w2 ⟨aG, cG, rfl, hor, hb⟩
  have H2 := Lib.hid (H0.out.call hb)
  have HRd : Hid (∀ W', Below w2.heap.size w2 W' → (W'.cell? ⟨w.heap.size, 0, none⟩ = some (.slice aS n cS) ∧ W'.cell? ⟨w.heap.size, 1, none⟩ = some (.slice aM N cM) ∧ W'.cell? ⟨w.heap.size, 2, none⟩ = some (.int .i64 L)) ∧ ∀ i, i < gs.length → ∃ bG oG bR oR cR, aG = some ⟨bG, oG, none⟩ ∧ W'.cell? ⟨bG, oG + i, none⟩ = some (.slice (some ⟨bR, oR, none⟩) (gs.getD i []).length cR) ∧ ∀ k, k < (gs.getD i []).length → W'.cell? ⟨bR, oR + k, none⟩ = some (.int .i64 (((gs.getD i []).getD k 0 : Nat) : Int))) := Lib.hid fun W' h => by
    have h1 := H2.out.call h
    refine ⟨⟨h1.cell (k := 0) (i := 0) rfl rfl, h1.cell (k := 0) (i := 1) rfl rfl, h1.cell (k := 0) (i := 2) rfl rfl⟩, fun i hi => ?_⟩
    have h2 := hor.later h (Nat.le_refl _)
    obtain ⟨bG, oG, rfl, _, _, hc⟩ := h2.open (by rw [List.length_map]; omega)
    have he : (gs.map nats)[i]? = some (nats (gs.getD i [])) := by rw [List.getElem?_map, getD_some (d := []) hi]; rfl
    obtain ⟨a', c', q1, q2⟩ := hc i _ he
    obtain ⟨bR, oR, rfl, _, _, hcR, _⟩ := q2.open (by rw [natsv_len]; exact (HGl.out i hi).1)
    rw [nats_length] at q1
    exact ⟨bG, oG, bR, oR, c', rfl, q1, fun k hk => hcR k _ (ints_nats_get hk)⟩
  have HBw := Lib.hid H2.out.below
  have HD : Hid (∀ W', Below w2.heap.size w2 W' → Below w.heap.size w W') := Lib.hid fun W' h => below_of HBw.out h HBw.out.size
  have J0 := Lib.hid ((HH.start w2).addNil 3)
  clear hor hb H0 HGr H2
  go_wp2_with fail
  go_loopg [5, 4] gs.length (fun g v q wr => ∃ (i : Nat) (rs : List Nat) (A : Option Addr) (C : Nat), i ≤ gs.length ∧ g = gs.length - i ∧ v = .int .i64 (i : Int) ∧ q = .slice A rs.length C ∧ Hid (Rts S M n i rs) ∧ HH w2 wr [] [⟨A, C, 3, ints (nats rs)⟩])
  case atStart => exact ⟨0, [], none, 0, Nat.zero_le _, rfl, rfl, rfl, Lib.hid (Rts.zero S M n), J0.out⟩
  case round =>
    obtain ⟨i, rs, A, C, hi, rfl, rfl, rfl, Hrt, hh⟩ := hrel
    have Hh := Lib.hid hh
    clear hh J0
    obtain ⟨hrl, _⟩ := HRl.out i rs Hrt.out
    have HRs : Hid (∀ r, r ∈ rs → r < n) := Lib.hid (HRl.out i rs Hrt.out).2
    by_cases hil : i < gs.length
    · obtain ⟨hG0, hGl, _⟩ := HGl.out i hil
      have HGn : Hid (∀ c, c ∈ gs.getD i [] → c < n) := Lib.hid (HGl.out i hil).2.2
      have HRn2 := Lib.hid fun (p : Nat) => HRn.out i rs p Hrt.out hil
      have HRd2 : Hid (∀ W', Below w2.heap.size w2 W' → (W'.cell? ⟨w.heap.size, 0, none⟩ = some (.slice aS n cS) ∧ W'.cell? ⟨w.heap.size, 1, none⟩ = some (.slice aM N cM) ∧ W'.cell? ⟨w.heap.size, 2, none⟩ = some (.int .i64 L)) ∧ ∃ bG oG bR oR cR, aG = some ⟨bG, oG, none⟩ ∧ W'.cell? ⟨bG, oG + i, none⟩ = some (.slice (some ⟨bR, oR, none⟩) (gs.getD i []).length cR) ∧ ∀ k, k < (gs.getD i []).length → W'.cell? ⟨bR, oR + k, none⟩ = some (.int .i64 (((gs.getD i []).getD k 0 : Nat) : Int))) := Lib.hid fun W' h => ⟨(HRd.out W' h).1, (HRd.out W' h).2 i hil⟩
      generalize gs.getD i [] = G at *
      obtain ⟨_, bG, oG, bR, oR, cR, rfl, h1, h2⟩ := HRd2.out w2 (Below.refl _ _)
      have HRw : Hid (∀ W', Below w2.heap.size w2 W' → (W'.cell? ⟨w.heap.size, 0, none⟩ = some (.slice aS n cS) ∧ W'.cell? ⟨w.heap.size, 1, none⟩ = some (.slice aM N cM) ∧ W'.cell? ⟨w.heap.size, 2, none⟩ = some (.int .i64 L)) ∧ W'.cell? ⟨bG, oG + i, none⟩ = some (.slice (some ⟨bR, oR, none⟩) G.length cR) ∧ ∀ k, k < G.length → W'.cell? ⟨bR, oR + k, none⟩ = some (.int .i64 ((G.getD k 0 : Nat) : Int))) := Lib.hid fun W' h => ⟨(HRd2.out W' h).1, (h.cell (World.block_lt_of_cell? _ _ h1)).trans h1, fun k hk => (h.cell (World.block_lt_of_cell? _ _ (h2 k hk))).trans (h2 k hk)⟩
      clear h1 h2
      obtain ⟨_, y1, y2⟩ := HRw.out wr Hh.out.below
      have y3 := y2 0 hG0
      have y4 : wr.cell? ⟨bR, oR, none⟩ = some (.int .i64 ((G.getD 0 0 : Nat) : Int)) := y3
      clear y2
      have HB0 : Hid (G.getD 0 0 = bstTo S M n G 0) := Lib.hid (by unfold bstTo; rw [List.take_zero]; rfl)
      rw [HB0.out] at y3 y4
      go_wp2_with fail
      clear y1 y3 y4
      go_loopg [7, 6] G.length (fun g v u wx => ∃ k : Nat, k ≤ G.length ∧ g = G.length - k ∧ v = .int .i64 (k : Int) ∧ u = .int .i64 ((bstTo S M n G k : Nat) : Int) ∧ HH w2 wx [] [⟨A, C, 3, ints (nats rs)⟩])
      case atStart => exact ⟨0, Nat.zero_le _, rfl, rfl, rfl, Hh.out⟩
      case round =>
        obtain ⟨k, hk, rfl, rfl, rfl, hh⟩ := hrel
        replace Hh := Lib.hid hh
        clear hh
        by_cases hkl : k < G.length
        · obtain ⟨x, hx⟩ : ∃ x, x = G.getD k 0 := ⟨_, rfl⟩
          have hxn : x < n := by rw [hx]; exact HGn.out _ (getD_mem hkl)
          have hbn : bstTo S M n G k < n := HGn.out _ (bstTo_in hG0 k hk)
          have HQ : Hid (∀ W', Below wr.heap.size wr W' → W'.cell? ⟨w.heap.size, 0, none⟩ = some (.slice aS n cS) ∧ W'.cell? ⟨w.heap.size, 1, none⟩ = some (.slice aM N cM) ∧ W'.cell? ⟨w.heap.size, 2, none⟩ = some (.int .i64 L) ∧ W'.cell? ⟨bG, oG + i, none⟩ = some (.slice (some ⟨bR, oR, none⟩) G.length cR) ∧ W'.cell? ⟨bR, oR + k, none⟩ = some (.int .i64 (x : Int))) := Lib.hid fun W' h => by
            have h1 := HRw.out W' (below_of Hh.out.below h Hh.out.below.size)
            refine ⟨h1.1.1, h1.1.2.1, h1.1.2.2, h1.2.1, ?_⟩
            rw [hx]; exact h1.2.2 k hkl
          have HBs : Hid (bstTo S M n G (k + 1) = if lessB (codeL S M x n) (codeL S M (bstTo S M n G k) n) = true then x else bstTo S M n G k) := Lib.hid (by rw [bstTo_succ hkl, hx]; rfl)
          clear hx
          generalize hbe : bstTo S M n G k = b at *
          clear hbe
          obtain ⟨q0, q1, q2, q3, q4⟩ := HQ.out wr (Below.refl _ _)
          have B0 : Hid (Below wr.heap.size wr wr.drew) := Lib.hid (Below.refl _ _).drew
          have Q0 := Lib.hid (HQ.out _ B0.out)
          have HDw : Hid (∀ W', Below wr.heap.size wr W' → Below w.heap.size w W') := Lib.hid fun W' h => HD.out _ (below_of Hh.out.below h Hh.out.below.size)
          go_upto_region 10 with fail
          clear q0 q1 q2 q3 q4
          have HL := Lib.hid fun (a b' : Option Addr) (c d : Nat) W' => HLs.out x b a b' c d W' hxn hbn
          by_cases hlt : lessB (codeL S M x n) (codeL S M b n) = true
          · rw [if_pos hlt] at HBs
            rw [hlt] at HL
            clear hlt
            go_region_held3 (fun W' => W'.cell? ⟨w.heap.size, 0, none⟩ = some (.slice aS n cS) ∧ W'.cell? ⟨w.heap.size, 1, none⟩ = some (.slice aM N cM) ∧ W'.cell? ⟨w.heap.size, 2, none⟩ = some (.int .i64 L) ∧ W'.cell? ⟨bG, oG + i, none⟩ = some (.slice (some ⟨bR, oR, none⟩) G.length cR) ∧ W'.cell? ⟨bR, oR + k, none⟩ = some (.int .i64 (x : Int)))
              (first
                | with_reducible exact Q0.out
                | with_reducible exact Q1.out
                | with_reducible exact Q2.out
                | with_reducible exact Q3.out)
              (first
                | ((with_reducible refine (HF.out x _ hxn (HDw.out _ B0.out)).mono ?_); rintro e z1 ⟨A1, C1, rfl, n1, hb⟩; have B1 := Lib.hid (B0.out.trans (hb.mono B0.out.size)); have Q1 := Lib.hid (HQ.out _ B1.out); have N1 := Lib.hid n1; clear hb n1)
                | ((with_reducible refine (HF.out b _ hbn (HDw.out _ B1.out)).mono ?_); rintro e z2 ⟨A2, C2, rfl, n2, hb⟩; have B2 := Lib.hid (B1.out.trans (hb.mono B1.out.size)); have Q2 := Lib.hid (HQ.out _ B2.out); have N2 := Lib.hid n2; have N3 := Lib.hid (N1.out.later hb); clear hb n2)
                | ((with_reducible refine (HL.out A1 A2 C1 C2 _ N3.out N2.out).mono ?_); rintro e z3 ⟨rfl, hb⟩; have B3 := Lib.hid (B2.out.trans (hb.mono B2.out.size)); have Q3 := Lib.hid (HQ.out _ B3.out); clear hb))
            all_goals
              have Hh3 := Lib.hid (Hh.out.call B3.out)
              obtain ⟨_, _, _, y1, y2⟩ := Q3.out
              clear Q0 Q1 Q2 Q3 N1 N2 N3 B0 B1 B2 B3 HL Hh
              go_wp2_with fail
              go_roundg (G.length - (k + 1))
              case measure => omega
              case rel => exact ⟨k + 1, by omega, rfl, by go_num, by rw [HBs.out], Hh3.out⟩
          · rw [if_neg hlt] at HBs
            rw [show lessB (codeL S M x n) (codeL S M b n) = false by simpa using hlt] at HL
            clear hlt
            go_region_held3 (fun W' => W'.cell? ⟨w.heap.size, 0, none⟩ = some (.slice aS n cS) ∧ W'.cell? ⟨w.heap.size, 1, none⟩ = some (.slice aM N cM) ∧ W'.cell? ⟨w.heap.size, 2, none⟩ = some (.int .i64 L) ∧ W'.cell? ⟨bG, oG + i, none⟩ = some (.slice (some ⟨bR, oR, none⟩) G.length cR) ∧ W'.cell? ⟨bR, oR + k, none⟩ = some (.int .i64 (x : Int)))
              (first
                | with_reducible exact Q0.out
                | with_reducible exact Q1.out
                | with_reducible exact Q2.out
                | with_reducible exact Q3.out)
              (first
                | ((with_reducible refine (HF.out x _ hxn (HDw.out _ B0.out)).mono ?_); rintro e z1 ⟨A1, C1, rfl, n1, hb⟩; have B1 := Lib.hid (B0.out.trans (hb.mono B0.out.size)); have Q1 := Lib.hid (HQ.out _ B1.out); have N1 := Lib.hid n1; clear hb n1)
                | ((with_reducible refine (HF.out b _ hbn (HDw.out _ B1.out)).mono ?_); rintro e z2 ⟨A2, C2, rfl, n2, hb⟩; have B2 := Lib.hid (B1.out.trans (hb.mono B1.out.size)); have Q2 := Lib.hid (HQ.out _ B2.out); have N2 := Lib.hid n2; have N3 := Lib.hid (N1.out.later hb); clear hb n2)
                | ((with_reducible refine (HL.out A1 A2 C1 C2 _ N3.out N2.out).mono ?_); rintro e z3 ⟨rfl, hb⟩; have B3 := Lib.hid (B2.out.trans (hb.mono B2.out.size)); have Q3 := Lib.hid (HQ.out _ B3.out); clear hb))
            all_goals
              have Hh3 := Lib.hid (Hh.out.call B3.out)
              clear Q0 Q1 Q2 Q3 N1 N2 N3 B0 B1 B2 B3 HL Hh
              go_wp2_with fail
              go_roundg (G.length - (k + 1))
              case measure => omega
              case rel => exact ⟨k + 1, by omega, rfl, by go_num, by rw [HBs.out], Hh3.out⟩
        · obtain rfl : k = G.length := by omega
          have hbn : bstTo S M n G G.length < n := HGn.out _ (bstTo_in hG0 _ hk)
          generalize hbe : bstTo S M n G G.length = b at *
          clear hbe hkl hk
          obtain ⟨_, y1, _⟩ := HRw.out wr Hh.out.below
          go_wp2_with fail
          clear y1
          go_loopg [8] rs.length (fun g v wx => ∃ p : Nat, p ≤ rs.length ∧ p = g ∧ v = .int .i64 (p : Int) ∧ Hid (∀ j, p ≤ j → j < rs.length → lessB (codeL S M b n) (codeL S M (rs.getD j 0) n) = true) ∧ HH w2 wx [] [⟨A, C, 3, ints (nats rs)⟩])
          case atStart => exact ⟨rs.length, Nat.le_refl _, rfl, rfl, Lib.hid fun j h1 h2 => by omega, Hh.out⟩
          case round =>
            obtain ⟨p, hp, rfl, rfl, Hls, hh⟩ := hrel
            replace Hh := Lib.hid hh
            clear hh
            by_cases hp0 : p = 0
            · have HRt := Lib.hid (HRn2.out p hp (.inl hp0) Hls.out)
              have t0 : decide ((0 : Int) < (p : Int)) = false := decide_eq_false (by omega)
              have t00 : decide (0 < p) = false := decide_eq_false (by omega)
              clear hp0
              go_upto_region 13 with fail
              go_region
              all_goals
                have Hh3 := Lib.hid Hh.out.drew
                clear t0 t00 Hls HRn2 Hh
                generalize wr.drew = W at *
                have Ha := Lib.hid (Hh3.out.call ((Below.refl _ _).alloc (Nat.le_refl _) (.cells #[.int .i64 0] 3)))
                have Hc0 : Hid ((W.alloc (.cells #[.int .i64 0] 3)).cell? ⟨W.heap.size, 0, none⟩ = some (.int .i64 0)) := Lib.hid ((Row.new W #[.int .i64 0] 3).cell 0)
                have Hl1 := Lib.hid Ha.out.below.size
                have Hln : Hid ((ints (nats rs)).length = rs.length) := Lib.hid (natsv_len _)
                have w2' : IntKind.i64.wrap ((rs.length : Int) + 1 - 1) = (rs.length : Int) := by rw [wrapi_mid (by omega) (by omega)]; omega
                go_wp2_with (with_reducible refine wpList_append_one rfl (.tmp 73) (.tmp 74) 22 rfl w2.heap.size 3 i0 (.int .i64 0) 8 Tryd.underlying22 hi0 hz0 hz1 hz2 rfl A rs.length C (ints (nats rs)) rfl Hln.out (Ha.out.sl (k := 0) rfl) _ 1 (.int .i64 0) rfl Hc0.out rfl (by omega) (by omega) Hl1.out ?_; intro A7 C7 w7 hO7 hT7 hA7; have H7 := Lib.hid (Ha.out.grow (k := 0) rfl hO7 hT7 hA7); clear hO7 hT7 hA7)
                clear Ha Hc0 Hl1 Hln Hh3
                go_loopg [9] (rs.length - p) (fun g v wx => ∃ (k z : Nat), p ≤ k ∧ k ≤ rs.length ∧ g = k - p ∧ v = .int .i64 (k : Int) ∧ HH w2 wx [] [⟨A7, C7, 3, ints (nats (gap rs k z))⟩])
                case atStart =>
                  refine ⟨rs.length, 0, hp, Nat.le_refl _, rfl, by go_num, ?_⟩
                  have h := H7.out
                  rw [gap_end, ← ints_nats_snoc]
                  exact h
                case round =>
                  obtain ⟨k, z, hpk, hkr, rfl, rfl, hh⟩ := hrel
                  have Hh := Lib.hid hh
                  clear hh H7
                  obtain ⟨b7, o7, rfl, _, _, hcR, hfR⟩ := (Hh.out.sl (k := 0) rfl).open (by show 0 < (ints (nats _)).length; rw [natsv_len, gap_len hkr]; omega)
                  by_cases hpk2 : p < k
                  · obtain ⟨k1, hk1⟩ : ∃ k1, k1 = k - 1 := ⟨_, rfl⟩
                    have x1 : IntKind.i64.wrap ((k : Int) - 1) = (k1 : Int) := by rw [wrapi_mid (by omega) (by omega)]; omega
                    have t1 : decide ((p : Int) < (k : Int)) = true := decide_eq_true (by omega)
                    have t2 : decide (p < k) = true := decide_eq_true hpk2
                    have y1 := hcR k1 _ (ints_nats_get (by rw [gap_len hkr]; omega))
                    rw [gap_get hkr (by omega)] at y1
                    have y2 := hcR k _ (ints_nats_get (by rw [gap_len hkr]; omega))
                    have y3 := hfR (o7 + k)
                    have H8 : Hid (HH w2 (wr.setCell ⟨b7, o7 + k, none⟩ (.int .i64 ((rs.getD k1 0 : Nat) : Int))) [] [⟨some ⟨b7, o7, none⟩, C7, 3, ints (nats (gap rs k1 (rs.getD k1 0)))⟩]) := Lib.hid (by
                      have h := Hh.out.slSet (k := 0) rfl k (by show k < (ints (nats _)).length; rw [natsv_len, gap_len hkr]; omega) (.int .i64 ((rs.getD k1 0 : Nat) : Int))
                      rw [ints_nats_set, gap_set hkr, gap_down hkr (by omega)] at h
                      exact h)
                    generalize rs.getD k1 0 = xv at *
                    generalize (gap rs k z).getD k 0 = xo at *
                    have z1 : k1 + 1 ≤ k := by omega
                    have z2 : k ≤ k1 + 1 := by omega
                    clear hcR hfR Hh hk1
                    go_wp2_with fail
                    clear y1 y2 y3
                    go_roundg (k1 - p)
                    case measure => omega
                    case rel => exact ⟨k1, xv, by omega, by omega, rfl, by go_num, H8.out⟩
                  · obtain rfl : p = k := by omega
                    have t1 : decide ((p : Int) < (p : Int)) = false := decide_eq_false (by omega)
                    have y2 := hcR p _ (ints_nats_get (by rw [gap_len hkr]; omega))
                    have y3 := hfR (o7 + p)
                    have H8 : Hid (HH w2 (wr.setCell ⟨b7, o7 + p, none⟩ (.int .i64 (b : Int))) [] [⟨some ⟨b7, o7, none⟩, C7, 3, ints (nats (gap rs p b))⟩]) := Lib.hid (by
                      have h := Hh.out.slSet (k := 0) rfl p (by show p < (ints (nats _)).length; rw [natsv_len, gap_len hkr]; omega) (.int .i64 (b : Int))
                      rw [ints_nats_set, gap_set hkr] at h
                      exact h)
                    generalize (gap rs p z).getD p 0 = xo at *
                    clear hcR hfR Hh hpk hpk2
                    go_wp2_with fail
                    clear y2 y3
                    go_roundg (gs.length - (i + 1))
                    case measure => omega
                    case rel => exact ⟨i + 1, gap rs p b, _, C7, by omega, rfl, by go_num, by rw [gap_len hkr], Lib.hid HRt.out, H8.out⟩
            · obtain ⟨p1, hp1⟩ : ∃ p1, p1 = p - 1 := ⟨_, rfl⟩
              have hq1 : p1 + 1 ≤ p := by omega
              have hq2 : p ≤ p1 + 1 := by omega
              have hq3 : (p1 : Int) < (rs.length : Int) := by omega
              have hq4 : p1 < rs.length := by omega
              have hyn : rs.getD p1 0 < n := HRs.out _ (getD_mem (by omega))
              have w1 : IntKind.i64.wrap ((p : Int) - 1) = (p1 : Int) := by rw [wrapi_mid (by omega) (by omega)]; omega
              have t0 : decide ((0 : Int) < (p : Int)) = true := decide_eq_true (by omega)
              have t00 : decide (0 < p) = true := decide_eq_true (by omega)
              obtain ⟨bo, oo, rfl, _, _, hcR, _⟩ := (Hh.out.sl (k := 0) rfl).open (by show 0 < (ints (nats rs)).length; rw [natsv_len]; omega)
              have hcy := hcR p1 _ (ints_nats_get (by omega))
              clear hcR hp1 hp0
              have HQ : Hid (∀ W', Below wr.heap.size wr W' → W'.cell? ⟨w.heap.size, 0, none⟩ = some (.slice aS n cS) ∧ W'.cell? ⟨w.heap.size, 1, none⟩ = some (.slice aM N cM) ∧ W'.cell? ⟨w.heap.size, 2, none⟩ = some (.int .i64 L) ∧ W'.cell? ⟨bo, oo + p1, none⟩ = some (.int .i64 ((rs.getD p1 0 : Nat) : Int))) := Lib.hid fun W' h => by
                have h1 := HRw.out W' (below_of Hh.out.below h Hh.out.below.size)
                exact ⟨h1.1.1, h1.1.2.1, h1.1.2.2, (h.cell (World.block_lt_of_cell? _ _ hcy)).trans hcy⟩
              have Hy : Hid (∃ y, y = rs.getD p1 0) := Lib.hid ⟨_, rfl⟩
              obtain ⟨y, hy⟩ := Hy.out
              rw [← hy] at hyn HQ
              have Hy := Lib.hid hy
              clear hy hcy
              have B0 : Hid (Below wr.heap.size wr wr.drew) := Lib.hid (Below.refl _ _).drew
              have Q0 := Lib.hid (HQ.out _ B0.out)
              have HDw : Hid (∀ W', Below wr.heap.size wr W' → Below w.heap.size w W') := Lib.hid fun W' h => HD.out _ (below_of Hh.out.below h Hh.out.below.size)
              have HL := Lib.hid fun (a b' : Option Addr) (c d : Nat) W' => HLs.out b y a b' c d W' hbn hyn
              go_upto_region 13 with fail
              by_cases hlt : lessB (codeL S M b n) (codeL S M y n) = true
              · have Hls2 : Hid (∀ j, p1 ≤ j → j < rs.length → lessB (codeL S M b n) (codeL S M (rs.getD j 0) n) = true) := Lib.hid fun j h1 h2 => by
                  rcases Nat.lt_or_ge j p with h | h
                  · obtain rfl : j = p1 := by omega
                    rw [← Hy.out]; exact hlt
                  · exact Hls.out j h h2
                rw [hlt] at HL
                clear hlt
                go_region_held3 (fun W' => W'.cell? ⟨w.heap.size, 0, none⟩ = some (.slice aS n cS) ∧ W'.cell? ⟨w.heap.size, 1, none⟩ = some (.slice aM N cM) ∧ W'.cell? ⟨w.heap.size, 2, none⟩ = some (.int .i64 L) ∧ W'.cell? ⟨bo, oo + p1, none⟩ = some (.int .i64 (y : Int)))
                  (first
                    | with_reducible exact Q0.out
                    | with_reducible exact Q1.out
                    | with_reducible exact Q2.out
                    | with_reducible exact Q3.out)
                  (first
                    | ((with_reducible refine (HF.out b _ hbn (HDw.out _ B0.out)).mono ?_); rintro e z1 ⟨A1, C1, rfl, n1, hb⟩; have B1 := Lib.hid (B0.out.trans (hb.mono B0.out.size)); have Q1 := Lib.hid (HQ.out _ B1.out); have N1 := Lib.hid n1; clear hb n1)
                    | ((with_reducible refine (HF.out y _ hyn (HDw.out _ B1.out)).mono ?_); rintro e z2 ⟨A2, C2, rfl, n2, hb⟩; have B2 := Lib.hid (B1.out.trans (hb.mono B1.out.size)); have Q2 := Lib.hid (HQ.out _ B2.out); have N2 := Lib.hid n2; have N3 := Lib.hid (N1.out.later hb); clear hb n2)
                    | ((with_reducible refine (HL.out A1 A2 C1 C2 _ N3.out N2.out).mono ?_); rintro e z3 ⟨rfl, hb⟩; have B3 := Lib.hid (B2.out.trans (hb.mono B2.out.size)); have Q3 := Lib.hid (HQ.out _ B3.out); clear hb))
                all_goals
                  have Hh3 := Lib.hid (Hh.out.call B3.out)
                  clear Q0 Q1 Q2 Q3 N1 N2 N3 B0 B1 B2 B3 HL Hh
                  go_wp2_with fail
                  go_roundg p1
                  case measure => omega
                  case rel => exact ⟨p1, by omega, rfl, by go_num, Lib.hid Hls2.out, Hh3.out⟩
              · have hlf : lessB (codeL S M b n) (codeL S M y n) = false := by simpa using hlt
                have HRt := Lib.hid (HRn2.out p hp (.inr (by rw [show p - 1 = p1 by omega, ← Hy.out]; exact hlf)) Hls.out)
                rw [hlf] at HL
                clear hlt hlf
                go_region_held3 (fun W' => W'.cell? ⟨w.heap.size, 0, none⟩ = some (.slice aS n cS) ∧ W'.cell? ⟨w.heap.size, 1, none⟩ = some (.slice aM N cM) ∧ W'.cell? ⟨w.heap.size, 2, none⟩ = some (.int .i64 L) ∧ W'.cell? ⟨bo, oo + p1, none⟩ = some (.int .i64 (y : Int)))
                  (first
                    | with_reducible exact Q0.out
                    | with_reducible exact Q1.out
                    | with_reducible exact Q2.out
                    | with_reducible exact Q3.out)
                  (first
                    | ((with_reducible refine (HF.out b _ hbn (HDw.out _ B0.out)).mono ?_); rintro e z1 ⟨A1, C1, rfl, n1, hb⟩; have B1 := Lib.hid (B0.out.trans (hb.mono B0.out.size)); have Q1 := Lib.hid (HQ.out _ B1.out); have N1 := Lib.hid n1; clear hb n1)
                    | ((with_reducible refine (HF.out y _ hyn (HDw.out _ B1.out)).mono ?_); rintro e z2 ⟨A2, C2, rfl, n2, hb⟩; have B2 := Lib.hid (B1.out.trans (hb.mono B1.out.size)); have Q2 := Lib.hid (HQ.out _ B2.out); have N2 := Lib.hid n2; have N3 := Lib.hid (N1.out.later hb); clear hb n2)
                    | ((with_reducible refine (HL.out A1 A2 C1 C2 _ N3.out N2.out).mono ?_); rintro e z3 ⟨rfl, hb⟩; have B3 := Lib.hid (B2.out.trans (hb.mono B2.out.size)); have Q3 := Lib.hid (HQ.out _ B3.out); clear hb))
                all_goals
                  have Hh3 := Lib.hid (Hh.out.call B3.out)
                  clear Q0 Q1 Q2 Q3 N1 N2 N3 B0 B1 B2 B3 HL Hh HQ HDw t0 t00 w1 hq1 hq2 hq3 hq4 hyn Hy Hls HRn2
                  obtain ⟨W, hW⟩ : ∃ W, W = z3 := ⟨_, rfl⟩
                  rw [← hW] at Hh3 ⊢
                  clear hW
                  generalize (some (⟨bo, oo, none⟩ : Addr)) = A at *
                  have Ha := Lib.hid (Hh3.out.call ((Below.refl _ _).alloc (Nat.le_refl _) (.cells #[.int .i64 0] 3)))
                  have Hc0 : Hid ((W.alloc (.cells #[.int .i64 0] 3)).cell? ⟨W.heap.size, 0, none⟩ = some (.int .i64 0)) := Lib.hid ((Row.new W #[.int .i64 0] 3).cell 0)
                  have Hl1 := Lib.hid Ha.out.below.size
                  have Hln : Hid ((ints (nats rs)).length = rs.length) := Lib.hid (natsv_len _)
                  have w2' : IntKind.i64.wrap ((rs.length : Int) + 1 - 1) = (rs.length : Int) := by rw [wrapi_mid (by omega) (by omega)]; omega
                  go_wp2_with (with_reducible refine wpList_append_one rfl (.tmp 73) (.tmp 74) 22 rfl w2.heap.size 3 i0 (.int .i64 0) 8 Tryd.underlying22 hi0 hz0 hz1 hz2 rfl A rs.length C (ints (nats rs)) rfl Hln.out (Ha.out.sl (k := 0) rfl) _ 1 (.int .i64 0) rfl Hc0.out rfl (by omega) (by omega) Hl1.out ?_; intro A7 C7 w7 hO7 hT7 hA7; have H7 := Lib.hid (Ha.out.grow (k := 0) rfl hO7 hT7 hA7); clear hO7 hT7 hA7)
                  clear Ha Hc0 Hl1 Hln Hh3
                  go_loopg [9] (rs.length - p) (fun g v wx => ∃ (k z : Nat), p ≤ k ∧ k ≤ rs.length ∧ g = k - p ∧ v = .int .i64 (k : Int) ∧ HH w2 wx [] [⟨A7, C7, 3, ints (nats (gap rs k z))⟩])
                  case atStart =>
                    refine ⟨rs.length, 0, hp, Nat.le_refl _, rfl, by go_num, ?_⟩
                    have h := H7.out
                    rw [gap_end, ← ints_nats_snoc]
                    exact h
                  case round =>
                    obtain ⟨k, z, hpk, hkr, rfl, rfl, hh⟩ := hrel
                    have Hh := Lib.hid hh
                    clear hh H7
                    obtain ⟨b7, o7, rfl, _, _, hcR, hfR⟩ := (Hh.out.sl (k := 0) rfl).open (by show 0 < (ints (nats _)).length; rw [natsv_len, gap_len hkr]; omega)
                    by_cases hpk2 : p < k
                    · obtain ⟨k1, hk1⟩ : ∃ k1, k1 = k - 1 := ⟨_, rfl⟩
                      have x1 : IntKind.i64.wrap ((k : Int) - 1) = (k1 : Int) := by rw [wrapi_mid (by omega) (by omega)]; omega
                      have t1 : decide ((p : Int) < (k : Int)) = true := decide_eq_true (by omega)
                      have t2 : decide (p < k) = true := decide_eq_true hpk2
                      have y1 := hcR k1 _ (ints_nats_get (by rw [gap_len hkr]; omega))
                      rw [gap_get hkr (by omega)] at y1
                      have y2 := hcR k _ (ints_nats_get (by rw [gap_len hkr]; omega))
                      have y3 := hfR (o7 + k)
                      have H8 : Hid (HH w2 (wr.setCell ⟨b7, o7 + k, none⟩ (.int .i64 ((rs.getD k1 0 : Nat) : Int))) [] [⟨some ⟨b7, o7, none⟩, C7, 3, ints (nats (gap rs k1 (rs.getD k1 0)))⟩]) := Lib.hid (by
                        have h := Hh.out.slSet (k := 0) rfl k (by show k < (ints (nats _)).length; rw [natsv_len, gap_len hkr]; omega) (.int .i64 ((rs.getD k1 0 : Nat) : Int))
                        rw [ints_nats_set, gap_set hkr, gap_down hkr (by omega)] at h
                        exact h)
                      generalize rs.getD k1 0 = xv at *
                      generalize (gap rs k z).getD k 0 = xo at *
                      have z1 : k1 + 1 ≤ k := by omega
                      have z2 : k ≤ k1 + 1 := by omega
                      clear hcR hfR Hh hk1
                      go_wp2_with fail
                      clear y1 y2 y3
                      go_roundg (k1 - p)
                      case measure => omega
                      case rel => exact ⟨k1, xv, by omega, by omega, rfl, by go_num, H8.out⟩
                    · obtain rfl : p = k := by omega
                      have t1 : decide ((p : Int) < (p : Int)) = false := decide_eq_false (by omega)
                      have y2 := hcR p _ (ints_nats_get (by rw [gap_len hkr]; omega))
                      have y3 := hfR (o7 + p)
                      have H8 : Hid (HH w2 (wr.setCell ⟨b7, o7 + p, none⟩ (.int .i64 (b : Int))) [] [⟨some ⟨b7, o7, none⟩, C7, 3, ints (nats (gap rs p b))⟩]) := Lib.hid (by
                        have h := Hh.out.slSet (k := 0) rfl p (by show p < (ints (nats _)).length; rw [natsv_len, gap_len hkr]; omega) (.int .i64 (b : Int))
                        rw [ints_nats_set, gap_set hkr] at h
                        exact h)
                      generalize (gap rs p z).getD p 0 = xo at *
                      clear hcR hfR Hh hpk hpk2
                      go_wp2_with fail
                      clear y2 y3
                      go_roundg (gs.length - (i + 1))
                      case measure => omega
                      case rel => exact ⟨i + 1, gap rs p b, _, C7, by omega, rfl, by go_num, by rw [gap_len hkr], Lib.hid HRt.out, H8.out⟩
    · obtain rfl : i = gs.length := by omega
      go_wp2_with fail
      go_ret
      exact ⟨A, C, rs, rfl, Lib.hid Hrt.out, (Hh.out.sl (k := 0) rfl).mono HBw.out.size, HBw.out.trans (Hh.out.below.mono HBw.out.size)⟩
end Go.Proofs.YtmhhjchnjaefhaaDoor

namespace Go.Proofs.YtmhhjchnjaefhaaDoor
open Go Go.RowKit
/-- The code after i roots. -/
def codeR (S M : List Int) (L : Int) (n : Nat) (rs : List Nat) (i : Nat) : List Int := L :: (rs.length : Int) :: (rs.take i).flatMap fun r => (((codeL S M r n).length / 5 : Nat) : Int) :: codeL S M r n
theorem codeR_succ (S M : List Int) (L : Int) (n : Nat) {rs : List Nat} {i : Nat} (h : i < rs.length) : codeR S M L n rs (i + 1) = codeR S M L n rs i ++ [(((codeL S M (rs.getD i 0) n).length / 5 : Nat) : Int)] ++ codeL S M (rs.getD i 0) n := by
  unfold codeR
  rw [List.take_add_one, getD_some (d := 0) h, List.flatMap_append]
  simp
theorem codeR_few (S M : List Int) (L : Int) (n : Nat) {rs : List Nat} (hc : ∀ r, r ∈ rs → (codeL S M r n).length ≤ 320) : ∀ i, i ≤ rs.length → (codeR S M L n rs i).length ≤ 2 + i * 321 := fun i => by
  induction i with
  | zero => intro _; simp [codeR]
  | succ i ih =>
    intro hi
    have h1 := ih (by omega)
    have h2 := hc _ (getD_mem (o := rs) (i := i) (by omega))
    rw [codeR_succ S M L n (by omega), List.length_append, List.length_append, List.length_singleton]
    omega
theorem codeR_all {S M : List Int} {L : Int} (hmo : MateOk M S.length) (hm : ∀ x, x < 4 * S.length → mt M x < 4 * S.length) {rs : List Nat} (h : Rts S M S.length (grpOf M S.length).length rs) : codeR S M L S.length rs rs.length = codeOf S M L := by
  unfold codeR codeOf encC
  rw [List.take_length, ← rts_codes hmo hm h, List.length_map, List.flatMap_map]
set_option maxRecDepth 100000 in
set_option maxHeartbeats 2000000 in
theorem rcode_any (S M : List Int) (L : Int) (aS aM : Option Addr) (cS cM : Nat) (w : World) (hv : vldB S M L = true) (hS : IntsAt w aS S) (hM : IntsAt w aM M) :
    Calls Tryd.prog 28 #[.agg #[.slice aS S.length cS, .slice aM M.length cM, .int .i64 L]] w fun e w' => ∃ A C, e = .returned (.slice A (codeOf S M L).length C) ∧ Own w' w.heap.size 3 A C (ints (codeOf S M L)) ∧ Below w.heap.size w w' := by
  have hs := vldB_shape hv
  have hfw := hs.few
  have hmo := hs.mates
  have hmt : ∀ x, x < 4 * S.length → mt M x < 4 * S.length := fun x hx => hs.mt_lt hx
  have HRo : Hid (∀ W', Below w.heap.size w W' → Calls Tryd.prog 45 #[.agg #[.slice aS S.length cS, .slice aM M.length cM, .int .i64 L]] W' fun e w' => ∃ A C rs, e = .returned (.slice A rs.length C) ∧ IntsAt w' A (nats rs) ∧ rs.length ≤ 64 ∧ Hid (codeR S M L S.length rs rs.length = codeOf S M L ∧ (∀ r, r ∈ rs → r < S.length ∧ (codeL S M r S.length).length ≤ 320)) ∧ Below W'.heap.size W' w') := Lib.hid fun W' h => by
    refine (roots_any S M L aS aM cS cM W' hv (hS.later h) (hM.later h)).mono ?_
    rintro e w' ⟨A, C, rs, rfl, hr, ho, hb⟩
    have hp := hr.out.perm
    refine ⟨A, C, rs, rfl, ho.ints, ?_, Lib.hid ⟨codeR_all hmo hmt hr.out, fun r hrr => ?_⟩, hb⟩
    · rw [hp.length_eq, List.length_map, List.length_take]
      have := grp_len M S.length; omega
    · obtain ⟨_, _, _, _, hlt⟩ := rts_of hmo hmt hr.out hrr
      refine ⟨hlt, ?_⟩
      rw [codeL_len]
      have : (ordL M r S.length).length ≤ S.length := ordTo_len hmt hlt S.length
      omega
  have HF : Hid (∀ r W', r < S.length → Below w.heap.size w W' → Calls Tryd.prog 46 #[.agg #[.slice aS S.length cS, .slice aM M.length cM, .int .i64 L], .int .i64 (r : Int)] W' fun e w' => ∃ A C, e = .returned (.slice A (codeL S M r S.length).length C) ∧ Own w' W'.heap.size 3 A C (ints (codeL S M r S.length)) ∧ Below W'.heap.size W' w') := Lib.hid fun r W' hr h => from_any S M L aS aM cS cM r W' hs hr (hS.later h) (hM.later h)
  obtain ⟨i0, hi0, hz0, hz1, hz2⟩ := info_parts Tryd.info3
  have H0 := Lib.hid ((HH.start w).alloc #[.slice aS S.length cS, .slice aM M.length cM, .int .i64 L] 24 rfl rfl)
  clear hs hmo hmt hv hS hM
  generalize codeOf S M L = CO at *
  generalize S.length = n at *
  generalize M.length = N at *
  go_enter Tryd.func28, Tryd.ntmps28
  have k00 := H0.out.cell (k := 0) (i := 0) rfl rfl
  have k01 := H0.out.cell (k := 0) (i := 1) rfl rfl
  have k02 := H0.out.cell (k := 0) (i := 2) rfl rfl
  go_wp2_with fail
  clear k00 k01 k02
  refine (HRo.out _ H0.out.below).mono ?_
  rintro e w2 ⟨aR, cR, rs, rfl, hri, hrl, HR, hb⟩
  have H2 := Lib.hid (H0.out.call hb)
  have HRI := Lib.hid hri
  clear hb H0 HRo hri
  have HRd : Hid (∀ W', Below w2.heap.size w2 W' → (W'.cell? ⟨w.heap.size, 0, none⟩ = some (.slice aS n cS) ∧ W'.cell? ⟨w.heap.size, 1, none⟩ = some (.slice aM N cM) ∧ W'.cell? ⟨w.heap.size, 2, none⟩ = some (.int .i64 L))) := Lib.hid fun W' h => by
    have h1 := H2.out.call h
    exact ⟨h1.cell (k := 0) (i := 0) rfl rfl, h1.cell (k := 0) (i := 1) rfl rfl, h1.cell (k := 0) (i := 2) rfl rfl⟩
  have HBw := Lib.hid H2.out.below
  have HD : Hid (∀ W', Below w2.heap.size w2 W' → Below w.heap.size w W') := Lib.hid fun W' h => below_of HBw.out h HBw.out.size
  have k02 := H2.out.cell (k := 0) (i := 2) rfl rfl
  have J0 : Hid (HH w2 (w2.alloc (.cells #[.int .i64 L, .int .i64 (rs.length : Int)] 3)) [] [⟨some ⟨w2.heap.size, 0, none⟩, 2, 3, ints (codeR S M L n rs 0)⟩]) := Lib.hid ((HH.start w2).addSl ((Below.refl _ _).alloc (Nat.le_refl _) _) (Own.made #[.int .i64 L, .int .i64 (rs.length : Int)] (Nat.le_refl _)))
  have Hcf : Hid (∀ i, i ≤ rs.length → (codeR S M L n rs i).length ≤ 100000) := Lib.hid fun i hi => by
    have h1 := codeR_few S M L n (fun r hr => (HR.out.2 r hr).2) i hi
    have h2 := Nat.mul_le_mul (show i ≤ 64 by omega) (Nat.le_refl 321)
    omega
  go_wp2_with fail
  clear k02 H2
  go_loopg [5, 4] rs.length (fun g v s4 wr => ∃ (i : Nat) (A2 : Option Addr) (d : Nat), i ≤ rs.length ∧ g = rs.length - i ∧ v = .int .i64 i ∧ s4 = .slice A2 (codeR S M L n rs i).length d ∧ HH w2 wr [] [⟨A2, d, 3, ints (codeR S M L n rs i)⟩])
  case atStart => exact ⟨0, _, 2, Nat.zero_le _, rfl, rfl, rfl, J0.out⟩
  case round =>
    obtain ⟨i, A2, d, hi, rfl, rfl, rfl, hh⟩ := hrel
    have Hh := Lib.hid hh
    clear hh J0
    by_cases hil : i < rs.length
    · obtain ⟨r, hr⟩ : ∃ r, r = rs.getD i 0 := ⟨_, rfl⟩
      have hrn : r < n := by rw [hr]; exact (HR.out.2 _ (getD_mem hil)).1
      have hcl : (codeL S M r n).length ≤ 320 := by rw [hr]; exact (HR.out.2 _ (getD_mem hil)).2
      have HC1 := Lib.hid (codeR_succ S M L n hil)
      rw [← hr] at HC1
      have hcy := Hcf.out i hi
      have Hcell : Hid (∃ bR oR, aR = some ⟨bR, oR, none⟩ ∧ ∀ W', Below w2.heap.size w2 W' → W'.cell? ⟨bR, oR + i, none⟩ = some (.int .i64 (r : Int))) := Lib.hid (by
        obtain ⟨bR, oR, e, _, hc⟩ := HRI.out.open (by rw [nats_length]; omega)
        refine ⟨bR, oR, e, fun W' h => ?_⟩
        have := hc i (by rw [nats_length]; exact hil)
        rw [nth_nats _ _ hil, ← hr] at this
        exact (h.cell (World.block_lt_of_cell? _ _ this)).trans this)
      clear hr
      obtain ⟨bR, oR, rfl, hcx⟩ := Hcell.out
      have HQ : Hid (∀ W', Below wr.heap.size wr W' → W'.cell? ⟨w.heap.size, 0, none⟩ = some (.slice aS n cS) ∧ W'.cell? ⟨w.heap.size, 1, none⟩ = some (.slice aM N cM) ∧ W'.cell? ⟨w.heap.size, 2, none⟩ = some (.int .i64 L) ∧ W'.cell? ⟨bR, oR + i, none⟩ = some (.int .i64 (r : Int))) := Lib.hid fun W' h => by
        have hb := below_of Hh.out.below h Hh.out.below.size
        have h1 := HRd.out W' hb
        exact ⟨h1.1, h1.2.1, h1.2.2, hcx W' hb⟩
      have B0 : Hid (Below wr.heap.size wr wr.drew) := Lib.hid (Below.refl _ _).drew
      have Q0 := Lib.hid (HQ.out _ B0.out)
      have HDw : Hid (∀ W', Below wr.heap.size wr W' → Below w.heap.size w W') := Lib.hid fun W' h => HD.out _ (below_of Hh.out.below h Hh.out.below.size)
      clear hcx Hcell
      generalize hcy2 : codeR S M L n rs (i + 1) = cy2 at *
      have HY := Lib.hid hcy2
      clear hcy2
      generalize codeR S M L n rs i = cy at *
      have HF2 := Lib.hid (HF.out r)
      generalize codeL S M r n = cr at *
      go_upto_region 6 with fail
      go_region_held3 (fun W' => W'.cell? ⟨w.heap.size, 0, none⟩ = some (.slice aS n cS) ∧ W'.cell? ⟨w.heap.size, 1, none⟩ = some (.slice aM N cM) ∧ W'.cell? ⟨w.heap.size, 2, none⟩ = some (.int .i64 L) ∧ W'.cell? ⟨bR, oR + i, none⟩ = some (.int .i64 (r : Int)))
        (first
          | with_reducible exact Q0.out
          | with_reducible exact Q1.out)
        (first
          | ((with_reducible refine (HF2.out _ hrn (HDw.out _ B0.out)).mono ?_); rintro e z1 ⟨A1, C1, rfl, n1, hb⟩; have B1 := Lib.hid (B0.out.trans (hb.mono B0.out.size)); have Q1 := Lib.hid (HQ.out _ B1.out); have N1 := Lib.hid (n1.mono B0.out.size); clear hb n1))
      all_goals
        have Hz := Lib.hid (Hh.out.addSl B1.out N1.out)
        clear Q0 Q1 B0 B1 Hh HQ HDw HF2
        have Hdiv : Hid ((cr.length : Int) / 5 = ((cr.length / 5 : Nat) : Int)) := Lib.hid (by omega)
        have Ha := Lib.hid (Hz.out.call ((Below.refl _ _).alloc (Nat.le_refl _) (.cells #[.int .i64 ((cr.length : Int) / 5)] 3)))
        have Hc0 : Hid ((z1.alloc (.cells #[.int .i64 ((cr.length : Int) / 5)] 3)).cell? ⟨z1.heap.size, 0, none⟩ = some (.int .i64 ((cr.length : Int) / 5))) := Lib.hid ((Row.new z1 #[.int .i64 ((cr.length : Int) / 5)] 3).cell 0)
        have Hl1 := Lib.hid Ha.out.below.size
        have Hln : Hid ((ints cy).length = cy.length) := Lib.hid (ints_length _)
        go_upto_region 8 with (with_reducible refine wpList_append_one rfl (.tmp 26) (.tmp 30) 22 rfl w2.heap.size 3 i0 (.int .i64 0) 8 Tryd.underlying22 hi0 hz0 hz1 hz2 rfl A2 cy.length d (ints cy) rfl Hln.out (Ha.out.sl (k := 0) rfl) _ 1 (.int .i64 ((cr.length : Int) / 5)) rfl Hc0.out rfl (by omega) (by omega) Hl1.out ?_; intro A3 e3 w7 hO2 hT2 hA2; have H3 := Lib.hid (Ha.out.grow (k := 0) rfl hO2 hT2 hA2); clear hO2 hT2 hA2)
        clear Ha Hc0 Hl1 Hz N1
        rw [ints_snoc', Hdiv.out] at H3
        have Hl2 : Hid ((cy ++ [((cr.length / 5 : Nat) : Int)]).length = cy.length + 1) := Lib.hid (by rw [List.length_append]; rfl)
        have Hl3 : Hid (cy2.length = cy.length + 1 + cr.length) := Lib.hid (by rw [HC1.out, List.length_append, Hl2.out])
        have HC4 := Lib.hid HC1.out.symm
        generalize cy ++ [((cr.length / 5 : Nat) : Int)] = cy3 at *
        have Hl1 := Lib.hid H3.out.below.size
        go_wp2_with (with_reducible refine wpList_app rfl (.tmp 32) (.tmp 33) rfl w2.heap.size A3 (cy.length + 1) e3 cy3 rfl Hl2.out (H3.out.sl (k := 0) rfl) A1 cr.length C1 cr rfl rfl (H3.out.sl (k := 1) rfl).ints (by omega) Hl1.out ?_; intro A7 e7 w8 hO7 hT7 hA7; have H9 := Lib.hid ((H3.out.grow (k := 0) rfl hO7 hT7 hA7).forget (s' := [⟨A7, e7, 3, ints (cy3 ++ cr)⟩]) (List.Sublist.cons_cons _ (List.nil_sublist _))); clear hO7 hT7 hA7)
        rw [HC4.out] at H9
        go_roundg (rs.length - (i + 1))
        case measure => omega
        case rel => exact ⟨i + 1, A7, e7, by omega, rfl, by go_num, by rw [HY.out, Hl3.out], by rw [HY.out]; exact H9.out⟩
    · obtain rfl : i = rs.length := by omega
      rw [HR.out.1] at Hh ⊢
      go_wp2_with fail
      go_ret
      exact ⟨A2, d, rfl, (Hh.out.sl (k := 0) rfl).mono HBw.out.size, HBw.out.trans (Hh.out.below.mono HBw.out.size)⟩
end Go.Proofs.YtmhhjchnjaefhaaDoor

