/- The walks of linking.strandsAt and sum. -/
import Derived.Test.YtkopbcehfbmnmaaPMap
namespace Go.Proofs.Ytkopbcehfbmnmaa
open Go Go.RowKit
set_option maxRecDepth 100000 in
set_option maxHeartbeats 2000000 in
theorem strandsAt_any (S M : List Int) (L : Int) (aS aM : Option Addr) (cS cM : Nat) (w : World) (hv : vldB S M L = true) (hS : IntsAt w aS S) (hM : IntsAt w aM M) :
    Calls Try.prog 98 #[.agg #[.slice aS S.length cS, .slice aM M.length cM, .int .i64 L]] w fun e w' => ∃ b, e = .returned (.map (some b)) ∧ Below w.heap.size w w' ∧ w.heap.size ≤ b ∧ PMap w' b 65536 (ownF (strandsL S M L)) := by
  have hs := vldB_shape hv
  have Hls := Lib.hid (strandsL_lists hv)
  have hn := hs.few
  have hml : M.length ≤ 256 := by have := hs.len; omega
  have HS := Lib.hid hS
  have HM := Lib.hid hM
  have HB : Hid (∀ o, Below w.heap.size w (w.alloc o)) := Lib.hid fun o => (Below.refl _ _).alloc (Nat.le_refl _) o
  have HB2 : Hid (∀ o1 o2, Below w.heap.size w ((w.alloc o1).alloc o2)) := Lib.hid fun o1 o2 => ((Below.refl _ _).alloc (Nat.le_refl _) o1).alloc (by simp) o2
  clear hs hS hM hv
  go_enter Try.func98, Try.ntmps98
  go_wp2_with (with_reducible refine wpList_makeMap rfl (.tmp 11) rfl _ rfl ?_)
  refine (strands_any S M L aS aM cS cM _ (by omega) (by omega) (HS.out.later (HB2.out _ _)) (HM.out.later (HB2.out _ _))).mono ?_
  rintro e w2 ⟨A, c, rfl, hb, hR⟩
  have hb2 := below_step (HB2.out _ _) hb
  have hsz := hb2.size
  have hpm : PMap w2 (w.heap.size + 1) 0 (fun _ => (0, 0)) := by
    have h1 := PMap.made (w.alloc (.cells #[.slice aS S.length cS, .slice aM M.length cM, .int .i64 L] 24))
    have h2 := h1.later hb (by simp)
    simpa using h2
  have hR2 := hR.mono (B' := w.heap.size) (by simp; omega)
  generalize hsl : strandsL S M L = ls at *
  have Hsl := Lib.hid hsl
  clear hsl
  have hf := Hls.out.few
  clear hb HB HB2 HS HM hR
  go_wp2_with fail
  go_loopg [16] ls.length (fun g i wr => ∃ k N : Nat, k ≤ ls.length ∧ g = ls.length - k ∧ i = .int .i64 k ∧ Below w.heap.size w wr ∧ N ≤ 256 * k ∧ PMap wr (w.heap.size + 1) N (ownTo ls k) ∧ OwnRows wr w.heap.size A c (ls.map nats))
  case atStart => exact ⟨0, 0, Nat.zero_le _, rfl, rfl, hb2, Nat.le_refl _, hpm, hR2⟩
  case round =>
    clear hb2 hsz hpm hR2
    obtain ⟨k, N, hk, rfl, rfl, hb, hN, hpm, hR⟩ := hrel
    have hsz := hb.size
    by_cases hkl : k < ls.length
    · obtain ⟨l, hl⟩ : ∃ l, ls[k]? = some l := ⟨_, List.getElem?_eq_getElem hkl⟩
      obtain ⟨b, off, rfl, _, hbF, hF⟩ := hR.open (by simpa using (show 0 < ls.length by omega))
      obtain ⟨aR, cR, hcF, hoR⟩ := hF k (nats l) (by rw [List.getElem?_map, hl]; rfl)
      rw [nats_length] at hcF
      have hll := Hls.out.len k l hl
      have Hlt := Lib.hid (fun j x => Hls.out.lt k l j x hl)
      have Hown : Hid (ownTo ls (k + 1) = l.foldl (own1 k) (ownTo ls k)) := Lib.hid (by
        rw [ownTo, List.getD_eq_getElem?_getD, hl]; rfl)
      generalize ownTo ls k = f at *
      clear hF hl
      go_wp2_with fail
      go_loopg [23] l.length (fun g i wi => ∃ j : Nat, j ≤ l.length ∧ g = l.length - j ∧ i = .int .i64 j ∧ Below w.heap.size w wi ∧ PMap wi (w.heap.size + 1) (N + j) ((l.take j).foldl (own1 k) f) ∧ OwnRows wi w.heap.size (some ⟨b, off, none⟩) c (ls.map nats) ∧ Own wi w.heap.size 3 aR cR (ints (nats l)))
      case atStart => exact ⟨0, Nat.zero_le _, rfl, rfl, hb, by simpa using hpm, hR, hoR⟩
      case round =>
        clear hb hpm hR hoR hcF hsz hbF
        obtain ⟨j, hj, rfl, rfl, hb, hpm, hR, hoR⟩ := hrel
        have hsz := hb.size
        by_cases hjl : j < l.length
        · obtain ⟨x, hx⟩ : ∃ x, l[j]? = some x := ⟨_, List.getElem?_eq_getElem hjl⟩
          have hx4 := Hlt.out j x hx
          obtain ⟨bR, oR, rfl, _, hbR, hcR, _⟩ := hoR.open (by rw [ints_length, nats_length]; omega)
          have hcx := hcR j _ (ints_get _ _ (by rw [nats_length]; exact hjl))
          have hxd : l.getD j 0 = x := by rw [List.getD_eq_getElem?_getD, hx]; rfl
          rw [nth_nats _ _ hjl, hxd] at hcx
          have Hst := Lib.hid (own_take k f l j x hx)
          generalize (l.take j).foldl (own1 k) f = f1 at *
          have Hpm := Lib.hid hpm
          have HR := Lib.hid hR
          have HoR := Lib.hid hoR
          obtain ⟨pu, po, hpp⟩ : ∃ pu po, f1 (x / 4) = (pu, po) := ⟨_, _, rfl⟩
          have Hpp := Lib.hid hpp
          have hml := hpm.lt
          clear hcR hpm hR hoR hx hxd hpp
          rcases Nat.mod_two_eq_zero_or_one x with hx2 | hx2
          · have hx2' : (x : Int) % 2 = 0 := by omega
            have Ho1 : Hid (own1 k f1 x = upd f1 (x / 4) ((k : Int), po)) := Lib.hid (by unfold own1; rw [if_pos hx2, Hpp.out])
            clear hx2
            go_wp2_with (first | (with_reducible refine wpList_lookup_pair rfl (.tmp 27) (.tmp 29) rfl _ _ (x / 4) f1 _ rfl rfl (by omega) (by omega) Hpm.out pu po Hpp.out ?_) | (with_reducible refine wpList_store_pair rfl (.tmp 35) (.tmp 37) (.tmp 38) rfl _ _ (x / 4) f1 (k : Int) po _ rfl rfl rfl (by omega) (by omega) (Hpm.out.alloc _) (by omega) ?_; intro w5 hp5 ht5))
            have hba := hb.alloc (by omega) (.cells #[.int .i64 (k : Int), .int .i64 po] 67)
            go_roundg (l.length - (j + 1))
            case measure => omega
            case rel =>
              refine ⟨j + 1, by omega, rfl, by go_num, below_mapTurned hba ht5 (by omega), by rw [Hst.out, Ho1.out]; exact hp5, ?_, ?_⟩
              · exact (HR.out.alloc _).kept fun b' cur E _ hb' => mapTurned_cells ht5 b' cur E _ hb'
              · exact (HoR.out.keptT fun b' cur hb' => Below.heap_alloc wr _ b' (lt_of_heap hb')).keptT fun b' cur hb' => mapTurned_cells ht5 b' cur 3 _ hb'
          · have hx2' : (x : Int) % 2 = 1 := by omega
            have Ho1 : Hid (own1 k f1 x = upd f1 (x / 4) (pu, (k : Int))) := Lib.hid (by unfold own1; rw [if_neg (by omega), Hpp.out])
            clear hx2
            go_wp2_with (first | (with_reducible refine wpList_lookup_pair rfl (.tmp 27) (.tmp 29) rfl _ _ (x / 4) f1 _ rfl rfl (by omega) (by omega) Hpm.out pu po Hpp.out ?_) | (with_reducible refine wpList_store_pair rfl (.tmp 35) (.tmp 37) (.tmp 38) rfl _ _ (x / 4) f1 pu (k : Int) _ rfl rfl rfl (by omega) (by omega) (Hpm.out.alloc _) (by omega) ?_; intro w5 hp5 ht5))
            have hba := hb.alloc (by omega) (.cells #[.int .i64 pu, .int .i64 (k : Int)] 67)
            go_roundg (l.length - (j + 1))
            case measure => omega
            case rel =>
              refine ⟨j + 1, by omega, rfl, by go_num, below_mapTurned hba ht5 (by omega), by rw [Hst.out, Ho1.out]; exact hp5, ?_, ?_⟩
              · exact (HR.out.alloc _).kept fun b' cur E _ hb' => mapTurned_cells ht5 b' cur E _ hb'
              · exact (HoR.out.keptT fun b' cur hb' => Below.heap_alloc wr _ b' (lt_of_heap hb')).keptT fun b' cur hb' => mapTurned_cells ht5 b' cur 3 _ hb'
        · obtain rfl : j = l.length := by omega
          rw [List.take_length, ← Hown.out] at hpm
          go_wp2_with fail
          go_roundg (ls.length - (k + 1))
          case measure => omega
          case rel => exact ⟨k + 1, N + l.length, by omega, rfl, by go_num, hb, by omega, hpm, hR⟩
    · obtain rfl : k = ls.length := by omega
      go_wp2_with fail
      go_ret
      rw [Hsl.out]
      exact ⟨_, rfl, hb, by omega, hpm.mono (by omega)⟩
end Go.Proofs.Ytkopbcehfbmnmaa
