/- The walk of the reference's Rank: the rank of a table of bits. -/
import Derived.Test.YtlgiponfcmeiiaaBmA
import Derived.CellFam
import Derived.BigRegion
namespace Go.Proofs.Ytlgiponfcmeiiaa
open Go Go.RowKit
theorem bools_one (l : List Bool) : ∀ u ∈ bools l, u.oneCell' = true := fun u h => by
  simp only [bools, List.mem_map] at h
  obtain ⟨x, _, rfl⟩ := h; rfl
set_option maxRecDepth 100000 in
set_option maxHeartbeats 4000000 in
theorem rrank_any (C : Nat) (xs : List Nat) (hx : ∀ x ∈ xs, x < 2 ^ C) (hC : C ≤ 65536) (hR : xs.length ≤ 65536) (a : Option Addr) (c : Nat) (w : World) (hT : BTabAt w a C xs) :
    Calls Try.prog 17 #[.int .i64 (C : Int), .slice a xs.length c] w fun e w' => e = .returned (.int .i64 (rk xs : Nat)) ∧ Below w.heap.size w w' := by
  obtain ⟨i0, hi0, hz0, hz1, hz2⟩ := info_parts Try.info52
  obtain ⟨j0, hj0, hy0, hy1, hy2⟩ := info_parts Try.info4
  have HT := Lib.hid hT
  have H0 := Lib.hid (Ech.zero hx)
  clear hT hx
  go_enter Try.func17, Try.ntmps17
  go_wp2_with fail
  go_loopg [6, 5] xs.length (fun g v s5 wr => ∃ (i : Nat) (A : Option Addr) (E : Nat) (ms : List SlO), i ≤ xs.length ∧ g = xs.length - i ∧ v = .int .i64 i ∧ s5 = .slice A i E ∧ ms.length = i ∧ HH w wr [] (⟨A, E, 52, ms.map slV⟩ :: ms) ∧ ∀ (m : Nat) (d : SlO), ms[m]? = some d → d.E = 4 ∧ d.vs = bools (rowF C (bF xs m)))
  case atStart => exact ⟨0, none, 0, [], Nat.zero_le _, rfl, rfl, rfl, rfl, (HH.start w).addNil 52, fun m x h => by simp at h⟩
  case round =>
    obtain ⟨i, A, E, ms, hi, rfl, rfl, rfl, hms, hh, hb⟩ := hrel
    have Hh := Lib.hid hh
    have Hb := Lib.hid hb
    have Hms := Lib.hid hms
    clear hh hb hms
    by_cases hil : i < xs.length
    · obtain ⟨b1, o1, a', c', rfl, hc', hrow⟩ := HT.out.rowAt (getD_get hil)
      have hbl := Hh.out.below
      obtain ⟨W1, hW1⟩ : ∃ W, W = wr.alloc (.cells #[] 4) := ⟨_, rfl⟩
      have hbb : Below wr.heap.size wr W1 := by rw [hW1]; exact (Below.refl _ _).alloc (Nat.le_refl _) _
      have Hrow := hrow W1 (hbl.trans (hbb.mono hbl.size))
      have hcx := Hrow.1
      have Hr1 : Hid (∃ A1 E1 w2, (Builtin.append_ #[52, 52] 52 #[.slice (some ⟨wr.heap.size, 0, none⟩) 0 0, .slice a' C c']).run Try.prog W1 = .ok (.slice A1 C E1) w2 ∧ HH w w2 [] ((⟨A, E, 52, ms.map slV⟩ : SlO) :: (ms ++ [⟨A1, E1, 4, bools (rowF C (bF xs i))⟩]))) := Lib.hid (by
        have ho : Own W1 wr.heap.size 4 (some ⟨wr.heap.size, 0, none⟩) 0 [] := by rw [hW1]; exact Own.made #[] (Nat.le_refl _)
        have hA := Hh.out.addSl hbb ho
        have hk : nthO ((⟨A, E, 52, ms.map slV⟩ : SlO) :: ms ++ [⟨some ⟨wr.heap.size, 0, none⟩, 0, 4, []⟩]) (ms.length + 1) = some ⟨some ⟨wr.heap.size, 0, none⟩, 0, 4, []⟩ := nthO_last ((⟨A, E, 52, ms.map slV⟩ : SlO) :: ms) _
        obtain ⟨A1, E1, w2, h1, h2, h3, h4⟩ := run_append_many (P := Try.prog) W1 w.heap.size 52 52 52 4 j0 (.bool false) 1 Try.underlying52 Try.underlying52 hj0 hy0 hy1 hy2 rfl (some ⟨wr.heap.size, 0, none⟩) 0 [] (hA.sl hk) a' c' (bools (rowF C (bF xs i))) Hrow.2 (bools_one _) (by rw [bools_length, rowF_len, List.length_nil]; omega) (by rw [bools_length, rowF_len, List.length_nil]; omega) hA.below.size
        rw [bools_length, rowF_len, List.length_nil, Nat.zero_add] at h1
        refine ⟨A1, E1, w2, h1, ?_⟩
        have := hA.grow hk h2 h3 h4
        rw [List.nil_append] at this
        have e := setO_last ((⟨A, E, 52, ms.map slV⟩ : SlO) :: ms) ⟨some ⟨wr.heap.size, 0, none⟩, 0, 4, []⟩ ⟨A1, E1, 4, bools (rowF C (bF xs i))⟩
        rw [List.length_cons] at e
        rw [e] at this
        exact this)
      clear hrow Hrow hbb
      obtain ⟨A1, E1, w2, hr1, H2⟩ := Hr1.out
      rw [hW1] at hcx hr1
      have Hr2 := Lib.hid hr1
      have Ha0 := Lib.hid (H2.call ((Below.refl _ _).alloc (Nat.le_refl _) (.cells #[.slice A1 C E1] 52)))
      have Hc0 : Hid ((w2.alloc (.cells #[.slice A1 C E1] 52)).cell? ⟨w2.heap.size, 0, none⟩ = some (.slice A1 C E1)) := Lib.hid ((Row.new w2 #[.slice A1 C E1] 52).cell 0)
      have Hl1 : Hid (w.heap.size ≤ (w2.alloc (.cells #[.slice A1 C E1] 52)).heap.size) := Lib.hid Ha0.out.below.size
      have Hn0 : Hid ((ms.map slV).length = i) := Lib.hid (by rw [List.length_map]; exact Hms.out)
      clear hr1 H2 hW1 Hr1
      go_wp2_with (first
        | (with_reducible refine wpList_append_run rfl (.tmp 20) (.tmp 24) #[52, 52] rfl (.slice (some ⟨wr.heap.size, 0, none⟩) 0 0) (.slice a' C c') _ _ rfl rfl Hr2.out ?_)
        | (with_reducible refine wpList_append_one rfl (.tmp 19) (.tmp 26) 34 rfl w.heap.size 52 i0 (.slice none 0 0) 24 Try.underlying34 hi0 hz0 hz1 hz2 rfl A i E (ms.map slV) rfl Hn0.out (Ha0.out.sl (k := 0) rfl) _ 1 (.slice A1 C E1) rfl Hc0.out rfl (by omega) (by omega) Hl1.out ?_; intro A2 e2 w3 hO2 hT2 hA2; have H3 := Lib.hid (Ha0.out.grow (k := 0) rfl hO2 hT2 hA2); clear hO2 hT2 hA2))
      go_roundg (xs.length - (i + 1))
      case measure => omega
      case rel =>
        refine ⟨i + 1, A2, e2, ms ++ [⟨A1, E1, 4, bools (rowF C (bF xs i))⟩], by omega, rfl, by go_num, rfl, by rw [List.length_append, Hms.out]; rfl, ?_, fun m d h => ?_⟩
        · have h := H3.out
          rw [List.map_append]
          have e : List.map slV [(⟨A1, E1, 4, bools (rowF C (bF xs i))⟩ : SlO)] = [.slice A1 C E1] := by
            show [slV _] = _
            unfold slV
            rw [bools_length, rowF_len]
          rw [e]
          exact h
        · rcases Nat.lt_or_ge m ms.length with g | g
          · rw [List.getElem?_append_left g] at h
            exact Hb.out m d h
          · rw [List.getElem?_append_right g] at h
            have hml := Hms.out
            cases hm : m - ms.length with
            | zero =>
              rw [hm] at h
              cases h
              rw [show m = i by omega]
              exact ⟨rfl, rfl⟩
            | succ m' => rw [hm] at h; simp at h
    · obtain rfl : i = xs.length := by omega
      have HB : Hid (BM w wr A E C xs.length (bF xs)) := Lib.hid ⟨ms, Hms.out, Hh.out, Hb.out⟩
      clear Hh Hb Hms HT
      generalize hn : xs.length = n at *
      have Hxn := Lib.hid hn
      clear hn
      go_wp2_with fail
      go_loopg [8, 7] C (fun g u v wr => ∃ (c r : Nat) (ys : List Nat), c ≤ C ∧ r ≤ n ∧ g = C - c ∧ u = .int .i64 c ∧ v = .int .i64 r ∧ Ech C xs ys r c ∧ BM w wr A E C n (bF ys))
      case atStart => exact ⟨0, 0, xs, Nat.zero_le _, Nat.zero_le _, rfl, rfl, rfl, H0.out, HB.out⟩
      case round =>
        obtain ⟨c, r, ys, hc, hrn, rfl, rfl, rfl, he, hb⟩ := hrel
        have He := Lib.hid he
        have Hb := Lib.hid hb
        have Hyn : Hid (ys.length = n) := Lib.hid (he.len.trans Hxn.out)
        clear he hb HB
        by_cases hcC : c < C
        · go_wp2_with fail
          go_loopg [10, 9] (n - r) (fun g u v wq => ∃ (i : Nat) (z : Int), r ≤ i ∧ i ≤ n ∧ g = n - i ∧ u = .int .i64 i ∧ v = .int .i64 z ∧ wq = wr ∧ ((z = -1 ∧ ∀ j, r ≤ j → j < i → bF ys j c = false) ∨ ∃ p : Nat, z = (p : Int) ∧ r ≤ p ∧ p < n ∧ bF ys p c = true))
          case atStart => exact ⟨r, -1, Nat.le_refl _, hrn, rfl, rfl, rfl, rfl, .inl ⟨rfl, fun j h1 h2 => by omega⟩⟩
          case round =>
            obtain ⟨i, z, hri, hin, rfl, rfl, rfl, rfl, hz⟩ := hrel
            rcases hz with ⟨rfl, hz⟩ | ⟨p, rfl, hrp, hpn, hbp⟩
            · have Hz := Lib.hid hz
              clear hz
              by_cases hil : i < n
              · obtain ⟨b, o, rfl, P, Q, Z, hat⟩ := Hb.out.open (by omega) (by omega)
                have hc1 := hat.cell i hil
                have hb1 := hat.bit i c hil hcC
                clear hat
                generalize P i = p1 at *
                generalize Q i = q1 at *
                generalize Z i = z1 at *
                cases hv : bF ys i c with
                | true =>
                  rw [hv] at hb1
                  have Hv := Lib.hid hv
                  clear hv
                  go_wp2_with fail
                  go_roundg (n - (i + 1))
                  case measure => omega
                  case rel => exact ⟨i + 1, i, by omega, by omega, rfl, by go_num, rfl, rfl, .inr ⟨i, rfl, by omega, by omega, Hv.out⟩⟩
                | false =>
                  rw [hv] at hb1
                  have Hz2 : Hid (∀ j, r ≤ j → j < i + 1 → bF ys j c = false) := Lib.hid fun j h1 h2 => by
                    by_cases e : j = i
                    · rw [e]; exact hv
                    · exact Hz.out j h1 (by omega)
                  clear hv
                  go_wp2_with fail
                  go_roundg (n - (i + 1))
                  case measure => omega
                  case rel => exact ⟨i + 1, -1, by omega, by omega, rfl, by go_num, rfl, rfl, .inl ⟨rfl, Hz2.out⟩⟩
              · obtain rfl : i = n := by omega
                have He2 := Lib.hid (He.out.skip fun j h1 h2 => Hz.out j h1 (by have := Hyn.out; omega))
                go_wp2_with fail
                go_roundg (C - (c + 1))
                case measure => omega
                case rel => exact ⟨c + 1, r, ys, by omega, by omega, rfl, by go_num, rfl, He2.out, Hb.out⟩
            · obtain ⟨b, o, rfl, P, Q, Z, hat⟩ := Hb.out.open (by omega) (by omega)
              have hcw := hat.cell
              have hfw := hat.fro
              obtain ⟨u3, h3⟩ := hat.beh p r (.slice (some ⟨P r, Q r, none⟩) C (Z r)) hpn (by omega)
              have HS : Hid (∃ zs, Mid C xs zs r c (r + 1) ∧ BM w ((wr.setCell ⟨b, o + p, none⟩ (.slice (some ⟨P r, Q r, none⟩) C (Z r))).setCell ⟨b, o + r, none⟩ (.slice (some ⟨P p, Q p, none⟩) C (Z p))).drew (some ⟨b, o, none⟩) E C n (bF zs) ∧ zs.length = n) := Lib.hid (by
                have hyl := Hyn.out
                have hs := He.out.swap hrp (by omega)
                refine ⟨_, ⟨hs, by rw [List.length_set, List.length_set]; omega, ?_, fun j h1 h2 => by omega⟩, ((hat.swap p r hpn (by omega)).swapE (by omega) (by omega)).drew, by rw [List.length_set, List.length_set]; exact hyl⟩
                rw [getD_set _ _ _ _ (by rw [List.length_set]; omega), if_pos rfl]
                exact hbp)
              clear hat hbp Hb He Hyn
              have hrl : r < n := by omega
              by_cases hil : i < n
              · go_wp2_with fail
                go_region
                clear hcw hfw h3
                generalize (World.setCell _ _ _).drew = ws at *
                go_wp2_with fail
                go_loopg [11] (n - (r + 1)) (fun g v wq => ∃ (i : Nat) (zs : List Nat), r < i ∧ i ≤ n ∧ g = n - i ∧ v = .int .i64 i ∧ Mid C xs zs r c i ∧ BM w wq (some ⟨b, o, none⟩) E C n (bF zs) ∧ zs.length = n)
                case atStart =>
                  obtain ⟨zs, h1, h2, h3⟩ := HS.out
                  exact ⟨r + 1, zs, by omega, by omega, rfl, by go_num, h1, h2, h3⟩
                case round =>
                  obtain ⟨i, zs, hri, hin, rfl, rfl, hmid, hbm, hzl⟩ := hrel
                  have Hm := Lib.hid hmid
                  have Hb := Lib.hid hbm
                  have Hzl := Lib.hid hzl
                  clear hmid hbm hzl HS
                  by_cases hjl : i < n
                  · obtain ⟨b', o', hbo, P, Q, Z, hat⟩ := Hb.out.open (by omega) (by omega)
                    cases hbo
                    have hc1 := hat.cell i hjl
                    have hb1 := hat.bit i c hjl hcC
                    clear hat
                    generalize P i = p1 at *
                    generalize Q i = q1 at *
                    generalize Z i = z1 at *
                    cases hv : bF zs i c with
                    | true =>
                      rw [hv] at hb1
                      have HM2 := Lib.hid (Hm.out.add hri (by have := Hzl.out; omega) hv)
                      clear hv
                      go_wp2_with fail
                      clear hc1 hb1
                      go_loopg [12] C (fun g v wq => ∃ k : Nat, k ≤ C ∧ g = C - k ∧ v = .int .i64 k ∧ BM w wq (some ⟨b, o, none⟩) E C n (mixF zs i r k))
                      case atStart => exact ⟨0, Nat.zero_le _, rfl, rfl, Hb.out.mix0 i r⟩
                      case round =>
                        obtain ⟨k, hk, rfl, rfl, hbk⟩ := hrel
                        have Hbk := Lib.hid hbk
                        clear hbk Hb
                        by_cases hkC : k < C
                        · obtain ⟨b', o', hbo, P, Q, Z, hat⟩ := Hbk.out.open (by omega) (by omega)
                          cases hbo
                          have hc1 := hat.cell i hjl
                          have hc2 := hat.cell r hrl
                          have hb1 := hat.bit i k hjl hkC
                          have hb2 := hat.bit r k hrl hkC
                          rw [mixF_at] at hb1
                          rw [mixF_at2 _ _ _ (by omega)] at hb2
                          have hf1 := hat.frr i k hjl
                          have HS2 := Lib.hid (((hat.set i k (bF zs i k != bF zs r k) hjl hkC).mixS).drew)
                          clear hat
                          generalize P i = p1 at *
                          generalize Q i = q1 at *
                          generalize Z i = z1 at *
                          generalize P r = p2 at *
                          generalize Q r = q2 at *
                          generalize Z r = z2 at *
                          generalize bF zs i k = x at *
                          generalize bF zs r k = y at *
                          go_wp2_with fail
                          go_region
                          go_wp2_with fail
                          go_roundg (C - (k + 1))
                          case measure => omega
                          case rel => exact ⟨k + 1, by omega, rfl, by go_num, HS2.out⟩
                        · obtain rfl : k = C := by omega
                          have HB3 := Lib.hid (Hbk.out.mixE (by have := Hzl.out; omega))
                          go_wp2_with fail
                          go_roundg (n - (i + 1))
                          case measure => omega
                          case rel => exact ⟨i + 1, _, by omega, by omega, rfl, by go_num, HM2.out, HB3.out, by rw [List.length_set]; exact Hzl.out⟩
                    | false =>
                      rw [hv] at hb1
                      have HM2 := Lib.hid (Hm.out.keep hv)
                      clear hv
                      go_wp2_with fail
                      go_roundg (n - (i + 1))
                      case measure => omega
                      case rel => exact ⟨i + 1, zs, by omega, by omega, rfl, by go_num, HM2.out, Hb.out, Hzl.out⟩
                  · obtain rfl : i = n := by omega
                    have HE2 := Lib.hid (Hm.out.done (by have := Hzl.out; omega))
                    go_wp2_with fail
                    go_roundg (C - (c + 1))
                    case measure => omega
                    case rel => exact ⟨c + 1, r + 1, zs, by omega, by omega, rfl, by go_num, by go_num, HE2.out, Hb.out⟩
              · go_wp2_with fail
                go_region
                clear hcw hfw h3
                generalize (World.setCell _ _ _).drew = ws at *
                go_wp2_with fail
                go_loopg [11] (n - (r + 1)) (fun g v wq => ∃ (i : Nat) (zs : List Nat), r < i ∧ i ≤ n ∧ g = n - i ∧ v = .int .i64 i ∧ Mid C xs zs r c i ∧ BM w wq (some ⟨b, o, none⟩) E C n (bF zs) ∧ zs.length = n)
                case atStart =>
                  obtain ⟨zs, h1, h2, h3⟩ := HS.out
                  exact ⟨r + 1, zs, by omega, by omega, rfl, by go_num, h1, h2, h3⟩
                case round =>
                  obtain ⟨i, zs, hri, hin, rfl, rfl, hmid, hbm, hzl⟩ := hrel
                  have Hm := Lib.hid hmid
                  have Hb := Lib.hid hbm
                  have Hzl := Lib.hid hzl
                  clear hmid hbm hzl HS
                  by_cases hjl : i < n
                  · obtain ⟨b', o', hbo, P, Q, Z, hat⟩ := Hb.out.open (by omega) (by omega)
                    cases hbo
                    have hc1 := hat.cell i hjl
                    have hb1 := hat.bit i c hjl hcC
                    clear hat
                    generalize P i = p1 at *
                    generalize Q i = q1 at *
                    generalize Z i = z1 at *
                    cases hv : bF zs i c with
                    | true =>
                      rw [hv] at hb1
                      have HM2 := Lib.hid (Hm.out.add hri (by have := Hzl.out; omega) hv)
                      clear hv
                      go_wp2_with fail
                      clear hc1 hb1
                      go_loopg [12] C (fun g v wq => ∃ k : Nat, k ≤ C ∧ g = C - k ∧ v = .int .i64 k ∧ BM w wq (some ⟨b, o, none⟩) E C n (mixF zs i r k))
                      case atStart => exact ⟨0, Nat.zero_le _, rfl, rfl, Hb.out.mix0 i r⟩
                      case round =>
                        obtain ⟨k, hk, rfl, rfl, hbk⟩ := hrel
                        have Hbk := Lib.hid hbk
                        clear hbk Hb
                        by_cases hkC : k < C
                        · obtain ⟨b', o', hbo, P, Q, Z, hat⟩ := Hbk.out.open (by omega) (by omega)
                          cases hbo
                          have hc1 := hat.cell i hjl
                          have hc2 := hat.cell r hrl
                          have hb1 := hat.bit i k hjl hkC
                          have hb2 := hat.bit r k hrl hkC
                          rw [mixF_at] at hb1
                          rw [mixF_at2 _ _ _ (by omega)] at hb2
                          have hf1 := hat.frr i k hjl
                          have HS2 := Lib.hid (((hat.set i k (bF zs i k != bF zs r k) hjl hkC).mixS).drew)
                          clear hat
                          generalize P i = p1 at *
                          generalize Q i = q1 at *
                          generalize Z i = z1 at *
                          generalize P r = p2 at *
                          generalize Q r = q2 at *
                          generalize Z r = z2 at *
                          generalize bF zs i k = x at *
                          generalize bF zs r k = y at *
                          go_wp2_with fail
                          go_region
                          go_wp2_with fail
                          go_roundg (C - (k + 1))
                          case measure => omega
                          case rel => exact ⟨k + 1, by omega, rfl, by go_num, HS2.out⟩
                        · obtain rfl : k = C := by omega
                          have HB3 := Lib.hid (Hbk.out.mixE (by have := Hzl.out; omega))
                          go_wp2_with fail
                          go_roundg (n - (i + 1))
                          case measure => omega
                          case rel => exact ⟨i + 1, _, by omega, by omega, rfl, by go_num, HM2.out, HB3.out, by rw [List.length_set]; exact Hzl.out⟩
                    | false =>
                      rw [hv] at hb1
                      have HM2 := Lib.hid (Hm.out.keep hv)
                      clear hv
                      go_wp2_with fail
                      go_roundg (n - (i + 1))
                      case measure => omega
                      case rel => exact ⟨i + 1, zs, by omega, by omega, rfl, by go_num, HM2.out, Hb.out, Hzl.out⟩
                  · obtain rfl : i = n := by omega
                    have HE2 := Lib.hid (Hm.out.done (by have := Hzl.out; omega))
                    go_wp2_with fail
                    go_roundg (C - (c + 1))
                    case measure => omega
                    case rel => exact ⟨c + 1, r + 1, zs, by omega, by omega, rfl, by go_num, by go_num, HE2.out, Hb.out⟩
        · obtain rfl : c = C := by omega
          have HF : Hid (rk xs = r) := Lib.hid He.out.rank
          go_wp2_with fail
          go_ret
          rw [HF.out]
          exact ⟨rfl, Hb.out.below⟩
end Go.Proofs.Ytlgiponfcmeiiaa
