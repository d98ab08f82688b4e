/- The walk of the law ConnectAlternates. -/
import Derived.Test.YtmjoijfafachhaaAltW
import Derived.Test.YtmjoijfafachhaaGreatW
import Derived.Test.YtmjoijfafachhaaAwkW
namespace Go.Proofs.Ytmjoijfafachhaa
open Go Go.RowKit
set_option maxRecDepth 100000 in
set_option maxHeartbeats 4000000 in
theorem lalt_great (S M : List Int) (L : Int) (aS aM : Option Addr) (cS cM : Nat) (w : World) (hg : greatB S M L = true) :
    Calls Try.prog 10 #[.agg #[.slice aS S.length cS, .slice aM M.length cM, .int .i64 L]] w fun e w' => e = .returned (.bool true) ∧ Below w.heap.size w w' := by
  have HG : Hid (∀ W', Calls Try.prog 13 #[.agg #[.slice aS S.length cS, .slice aM M.length cM, .int .i64 L]] W' fun e w' => e = .returned (.bool true) ∧ Below W'.heap.size W' w') := Lib.hid fun W' => by
    have g := great_any S M L aS aM cS cM W'
    rw [hg] at g; exact g
  have H0 := Lib.hid ((HH.start w).alloc #[.slice aS S.length cS, .slice aM M.length cM, .int .i64 L] 24 rfl rfl)
  clear hg
  go_enter Try.func10, Try.ntmps10
  go_wp2_with fail
  refine (awake_any _).mono ?_
  rintro e w1 ⟨rfl, hb⟩
  have H1 := Lib.hid (H0.out.call hb)
  clear hb H0 
  have k0 := H1.out.cell (k := 0) (i := 0) rfl rfl
  have k1 := H1.out.cell (k := 0) (i := 1) rfl rfl
  have k2 := H1.out.cell (k := 0) (i := 2) rfl rfl
  go_wp2_with fail
  clear k0 k1 k2
  refine (HG.out _).mono ?_
  rintro e w2 ⟨rfl, hb⟩
  have H2 := Lib.hid (H1.out.call hb)
  clear hb H1 
  have k0 := H2.out.cell (k := 0) (i := 0) rfl rfl
  have k1 := H2.out.cell (k := 0) (i := 1) rfl rfl
  have k2 := H2.out.cell (k := 0) (i := 2) rfl rfl
  go_wp2_with fail
  go_ret
  exact ⟨rfl, H2.out.below⟩
set_option maxRecDepth 100000 in
set_option maxHeartbeats 4000000 in
theorem lalt_no (S M : List Int) (L : Int) (aS aM : Option Addr) (cS cM : Nat) (w : World) (hg : greatB S M L = false) (hv : vldB S M L = false) (hS : IntsAt w aS S) (hM : IntsAt w aM M) :
    Calls Try.prog 10 #[.agg #[.slice aS S.length cS, .slice aM M.length cM, .int .i64 L]] w fun e w' => e = .returned (.bool true) ∧ Below w.heap.size w w' := by
  obtain ⟨hg1, hg2⟩ := greatB_no hg
  have HG : Hid (∀ W', Calls Try.prog 13 #[.agg #[.slice aS S.length cS, .slice aM M.length cM, .int .i64 L]] W' fun e w' => e = .returned (.bool false) ∧ Below W'.heap.size W' w') := Lib.hid fun W' => by
    have g := great_any S M L aS aM cS cM W'
    rw [hg] at g; exact g
  have HV : Hid (∀ W', Below w.heap.size w W' → Calls Try.prog 26 #[.agg #[.slice aS S.length cS, .slice aM M.length cM, .int .i64 L]] W' fun e w' => e = .returned (.bool false) ∧ Below W'.heap.size W' w') := Lib.hid fun W' h => by
    have g := valid_any S M L aS aM cS cM W' (by omega) (by omega) (hS.later h) (hM.later h)
    rw [hv] at g; exact g
  have H0 := Lib.hid ((HH.start w).alloc #[.slice aS S.length cS, .slice aM M.length cM, .int .i64 L] 24 rfl rfl)
  clear hg hv hS hM
  go_enter Try.func10, Try.ntmps10
  go_wp2_with fail
  refine (awake_any _).mono ?_
  rintro e w1 ⟨rfl, hb⟩
  have H1 := Lib.hid (H0.out.call hb)
  clear hb H0 
  have k0 := H1.out.cell (k := 0) (i := 0) rfl rfl
  have k1 := H1.out.cell (k := 0) (i := 1) rfl rfl
  have k2 := H1.out.cell (k := 0) (i := 2) rfl rfl
  go_wp2_with fail
  clear k0 k1 k2
  refine (HG.out _).mono ?_
  rintro e w2 ⟨rfl, hb⟩
  have H2 := Lib.hid (H1.out.call hb)
  clear hb H1 
  have k0 := H2.out.cell (k := 0) (i := 0) rfl rfl
  have k1 := H2.out.cell (k := 0) (i := 1) rfl rfl
  have k2 := H2.out.cell (k := 0) (i := 2) rfl rfl
  go_wp2_with fail
  clear k0 k1 k2
  refine (HV.out _ H2.out.below).mono ?_
  rintro e w3 ⟨rfl, hb⟩
  have H3 := Lib.hid (H2.out.call hb)
  clear hb H2 
  go_wp2_with fail
  go_ret
  exact ⟨rfl, H3.out.below⟩
set_option maxRecDepth 100000 in
set_option maxHeartbeats 4000000 in
theorem lalt_yes (S M : List Int) (L : Int) (aS aM : Option Addr) (cS cM : Nat) (w : World) (hg : greatB S M L = false) (hv : vldB S M L = true) (hS : IntsAt w aS S) (hM : IntsAt w aM M) :
    Calls Try.prog 10 #[.agg #[.slice aS S.length cS, .slice aM M.length cM, .int .i64 L]] w fun e w' => e = .returned (.bool true) ∧ Below w.heap.size w w' := by
  obtain ⟨hg1, hg2⟩ := greatB_no hg
  have HG : Hid (∀ W', Calls Try.prog 13 #[.agg #[.slice aS S.length cS, .slice aM M.length cM, .int .i64 L]] W' fun e w' => e = .returned (.bool false) ∧ Below W'.heap.size W' w') := Lib.hid fun W' => by
    have g := great_any S M L aS aM cS cM W'
    rw [hg] at g; exact g
  have HV : Hid (∀ W', Below w.heap.size w W' → Calls Try.prog 26 #[.agg #[.slice aS S.length cS, .slice aM M.length cM, .int .i64 L]] W' fun e w' => e = .returned (.bool true) ∧ Below W'.heap.size W' w') := Lib.hid fun W' h => by
    have g := valid_any S M L aS aM cS cM W' (by omega) (by omega) (hS.later h) (hM.later h)
    rw [hv] at g; exact g
  have HSt : Hid (∀ W', Below w.heap.size w W' → Calls Try.prog 45 #[.agg #[.slice aS S.length cS, .slice aM M.length cM, .int .i64 L]] W' fun e w' => ∃ a c, e = .returned (.slice a (strandsL S M L).length c) ∧ Below W'.heap.size W' w' ∧ OwnRows w' W'.heap.size a c ((strandsL S M L).map nats)) := Lib.hid fun W' h => strands_any S M L aS aM cS cM W' (by omega) (by omega) (hS.later h) (hM.later h)
  have HAl : Hid (∀ W', Below w.heap.size w W' → Calls Try.prog 37 #[.agg #[.slice aS S.length cS, .slice aM M.length cM, .int .i64 L]] W' fun e w' => e = .returned (.bool (rowsTo (strandsL S M L) (strandsL S M L).length)) ∧ Below W'.heap.size W' w') := Lib.hid fun W' h => by
    rw [alt_strands hv]; exact alternating_yes S M L aS aM cS cM W' hv (hS.later h) (hM.later h)
  have hls := strandsL_lists hv
  have HLs : Hid (∀ k, k < (strandsL S M L).length → ((strandsL S M L).getD k []).length ≤ 256 ∧ ∀ j, j < ((strandsL S M L).getD k []).length → ((strandsL S M L).getD k []).getD j 0 < 256) := Lib.hid fun k hk => by
    have e := getD_some (d := []) hk
    refine ⟨by have := hls.len k _ e; omega, fun j hj => ?_⟩
    have := hls.lt k _ j _ e (getD_some (d := 0) hj)
    omega
  have hlf := hls.few
  have hlf : (strandsL S M L).length ≤ 256 := by omega
  have H0 := Lib.hid ((HH.start w).alloc #[.slice aS S.length cS, .slice aM M.length cM, .int .i64 L] 24 rfl rfl)
  clear hg hv hS hM hls
  generalize strandsL S M L = T at *
  go_enter Try.func10, Try.ntmps10
  go_wp2_with fail
  refine (awake_any _).mono ?_
  rintro e w1 ⟨rfl, hb⟩
  have H1 := Lib.hid (H0.out.call hb)
  clear hb H0 
  have k0 := H1.out.cell (k := 0) (i := 0) rfl rfl
  have k1 := H1.out.cell (k := 0) (i := 1) rfl rfl
  have k2 := H1.out.cell (k := 0) (i := 2) rfl rfl
  go_wp2_with fail
  clear k0 k1 k2
  refine (HG.out _).mono ?_
  rintro e w2 ⟨rfl, hb⟩
  have H2 := Lib.hid (H1.out.call hb)
  clear hb H1 
  have k0 := H2.out.cell (k := 0) (i := 0) rfl rfl
  have k1 := H2.out.cell (k := 0) (i := 1) rfl rfl
  have k2 := H2.out.cell (k := 0) (i := 2) rfl rfl
  go_wp2_with fail
  clear k0 k1 k2
  refine (HV.out _ H2.out.below).mono ?_
  rintro e w3 ⟨rfl, hb⟩
  have H3 := Lib.hid (H2.out.call hb)
  clear hb H2 
  have k0 := H3.out.cell (k := 0) (i := 0) rfl rfl
  have k1 := H3.out.cell (k := 0) (i := 1) rfl rfl
  have k2 := H3.out.cell (k := 0) (i := 2) rfl rfl
  go_wp2_with fail
  clear k0 k1 k2
  refine (HSt.out _ H3.out.below).mono ?_
  rintro e w4 ⟨aP, cP, rfl, hb, ho⟩
  have H4 := Lib.hid (H3.out.call hb)
  have HO := Lib.hid (ho.mono H3.out.below.size)
  clear hb ho H3 HSt HG HV
  go_wp2_with fail
  go_loopg [21, 3] T.length (fun g v s3 wr => ∃ i : Nat, i ≤ T.length ∧ g = T.length - i ∧ v = .int .i64 i ∧ s3 = .bool (rowsTo T i) ∧ OwnRows wr w.heap.size aP cP (T.map nats) ∧ HH w wr [(w.heap.size, rowO 24 [.slice aS S.length cS, .slice aM M.length cM, .int .i64 L])] [])
  case atStart => exact ⟨0, Nat.zero_le _, rfl, rfl, rfl, HO.out, H4.out⟩
  case round =>
    obtain ⟨i, hi, rfl, rfl, rfl, ho, hh⟩ := hrel
    replace HO := Lib.hid ho
    have Hh := Lib.hid hh
    clear ho hh H4
    by_cases hil : i < T.length
    · obtain ⟨b1, o1, rfl, _, _, hrow⟩ := HO.out.open (by rw [List.length_map]; omega)
      obtain ⟨a', c', hci, hro⟩ := hrow i (nats (T.getD i [])) (by rw [List.getElem?_map, getD_some (d := []) hil]; rfl)
      rw [nats_length] at hci
      have Hsu := Lib.hid (rowsTo_succ hil)
      obtain ⟨hl1, hl2⟩ := HLs.out i hil
      have HL2 := Lib.hid hl2
      have HR := Lib.hid hro.ints
      generalize T.getD i [] = s at *
      generalize rowsTo T i = R0 at *
      have Hrw : Hid (rowB s = rowTo s s.length) := Lib.hid rfl
      clear hrow hro hl2
      have hwr : Hid (wr = wr) := Lib.hid rfl
      go_wp2_with fail
      go_loopg [27, 3] s.length (fun g v s3 wx => ∃ j : Nat, j ≤ s.length ∧ g = s.length - j ∧ v = .int .i64 j ∧ s3 = .bool (R0 && rowTo s j) ∧ wx = wr)
      case atStart => exact ⟨0, Nat.zero_le _, rfl, rfl, by simp [rowTo], rfl⟩
      case round =>
        obtain ⟨j, hj, rfl, rfl, rfl, hw⟩ := hrel
        subst hw
        by_cases hjl : j < s.length
        · have hpos : 0 < s.length := by omega
          obtain ⟨bs, os, rfl, _, hcs⟩ := HR.out.open (by rw [nats_length]; omega)
          have hnx : ((j : Int) + 1).tmod (s.length : Int) = (((j + 1) % s.length : Nat) : Int) := by
            rw [Int.tmod_eq_emod_of_nonneg (by omega)]; push_cast; rfl
          have hnx2 : ((j : Int) + 1) % (s.length : Int) = (((j + 1) % s.length : Nat) : Int) := by push_cast; rfl
          have hnl : (j + 1) % s.length < s.length := Nat.mod_lt _ hpos
          obtain ⟨x, hx⟩ : ∃ x, s.getD j 0 = x := ⟨_, rfl⟩
          have hxl : x < 256 := by rw [← hx]; exact HL2.out j hjl
          have Hsj := Lib.hid (rowTo_succ s j)
          rw [hx] at Hsj
          have m1 := hcs j (by rw [nats_length]; exact hjl)
          rw [show nth (nats s) j = (x : Int) by rw [← hx]; simp [nth, nats, hjl]] at m1
          obtain ⟨q, hq⟩ : ∃ q, (j + 1) % s.length = q := ⟨_, rfl⟩
          rw [hq] at hnx hnx2 hnl Hsj
          obtain ⟨y, hy⟩ : ∃ y, s.getD q 0 = y := ⟨_, rfl⟩
          have hyl : y < 256 := by rw [← hy]; exact HL2.out q hnl
          rw [hy] at Hsj
          have m2 := hcs q (by rw [nats_length]; exact hnl)
          rw [show nth (nats s) q = (y : Int) by rw [← hy]; simp [nth, nats, hnl]] at m2
          have hsl0 : ¬ (s.length : Int) = 0 := by omega
          have hsl1 : ((s.length : Int) == 0) = false := by rw [beq_eq_false_iff_ne]; omega
          have tx := Int.tmod_eq_emod_of_nonneg (a := (x : Int)) (b := 2) (by omega)
          have ty := Int.tmod_eq_emod_of_nonneg (a := (y : Int)) (b := 2) (by omega)
          clear hcs hx hy hq hpos tx ty
          by_cases hpar : x % 2 = y % 2
          · have e1 : ((x : Int) % 2 == (y : Int) % 2) = true := by rw [beq_iff_eq]; omega
            have e2 : ((x : Int).tmod 2 == (y : Int).tmod 2) = true := by rw [beq_iff_eq, Int.tmod_eq_emod_of_nonneg (by omega), Int.tmod_eq_emod_of_nonneg (by omega)]; omega
            have Hr : Hid (rowTo s (j + 1) = false) := Lib.hid (by rw [Hsj.out, decide_eq_false (fun h => h hpar), Bool.and_false])
            clear Hsj hpar
            go_wp2_with fail
            go_roundg (s.length - (j + 1))
            case measure => omega
            case rel => exact ⟨j + 1, by omega, rfl, by go_num, by rw [Hr.out, Bool.and_false], rfl⟩
          · have e1 : ((x : Int) % 2 == (y : Int) % 2) = false := by rw [beq_eq_false_iff_ne]; omega
            have e2 : ((x : Int).tmod 2 == (y : Int).tmod 2) = false := by rw [beq_eq_false_iff_ne, Int.tmod_eq_emod_of_nonneg (by omega), Int.tmod_eq_emod_of_nonneg (by omega)]; omega
            have Hr : Hid (rowTo s (j + 1) = rowTo s j) := Lib.hid (by rw [Hsj.out, decide_eq_true hpar, Bool.and_true])
            clear Hsj hpar
            go_wp2_with fail
            go_roundg (s.length - (j + 1))
            case measure => omega
            case rel => exact ⟨j + 1, by omega, rfl, by go_num, by rw [Hr.out], rfl⟩
        · obtain rfl : j = s.length := by omega
          go_wp2_with fail
          go_roundg (T.length - (i + 1))
          case measure => omega
          case rel => exact ⟨i + 1, by omega, rfl, by go_num, by rw [Hsu.out, Hrw.out], HO.out, Hh.out⟩
    · obtain rfl : i = T.length := by omega
      have k0 := Hh.out.cell (k := 0) (i := 0) rfl rfl
      have k1 := Hh.out.cell (k := 0) (i := 1) rfl rfl
      have k2 := Hh.out.cell (k := 0) (i := 2) rfl rfl
      have HAx := Lib.hid (HAl.out wr Hh.out.below)
      generalize rowsTo T T.length = R at *
      go_wp2_with fail
      refine HAx.out.mono ?_
      rintro e w9 ⟨rfl, hb⟩
      have H9 := Lib.hid (Hh.out.call hb)
      clear hb Hh HAx k0 k1 k2
      have er : (R == R) = true := beq_self_eq_true R
      go_wp2_with fail
      go_ret
      exact ⟨rfl, H9.out.below⟩
theorem lalt_any (S M : List Int) (L : Int) (aS aM : Option Addr) (cS cM : Nat) (w : World) (_ : S.length ≤ maxLen) (_ : M.length ≤ maxLen) (_ : (Lit.int .i64 L).wf = true) (hS : IntsAt w aS S) (hM : IntsAt w aM M) :
    Calls Try.prog 10 #[.agg #[.slice aS S.length cS, .slice aM M.length cM, .int .i64 L]] w fun e w' => e = .returned (.bool true) ∧ Below w.heap.size w w' := by
  cases hg : greatB S M L
  · cases hv : vldB S M L
    · exact lalt_no S M L aS aM cS cM w hg hv hS hM
    · exact lalt_yes S M L aS aM cS cM w hg hv hS hM
  · exact lalt_great S M L aS aM cS cM w hg
end Go.Proofs.Ytmjoijfafachhaa
