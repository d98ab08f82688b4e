/- The walk of the law ConnectCuts. -/
import Derived.Test.YtmjoijfafachhaaCtnW
import Derived.Test.YtmjoijfafachhaaPcsW
import Derived.Test.YtmjoijfafachhaaGreatW
import Derived.Test.YtmjoijfafachhaaAwkW
namespace Go.Proofs.Ytmjoijfafachhaa
open Go Go.RowKit
theorem grp_ct {M : List Int} {n : Nat} (hm : Mates M n) : (grpOf M n).length = CT M n := by
  rw [Sm.ct_nc hm]
  unfold grpOf leadsN nc cnt
  rw [List.length_map, ← List.countP_eq_length_filter]
  refine List.countP_congr fun c hc => ?_
  have hcn := List.mem_range.1 hc
  rw [okC_iff]
  simp only [Bool.true_and, decide_eq_true_eq]
  constructor
  · intro h y hy hcy
    rcases Nat.lt_or_ge y c with g | g
    · exact absurd (hm.ok.conn_symm hcn hcy) (h y g)
    · exact g
  · intro h d hd hdc
    have := h d (by omega) (hm.ok.conn_symm (by omega) hdc)
    omega
theorem cuts_law {S M : List Int} {L : Int} (hv : vldB S M L = true) {x y : Nat} (hxy : x < y) (hy : y < 4 * S.length) (hox : outB S x = true) (hoy : outB S y = true) :
    decide ((x, y) ∈ cutsL S M) = decide (((grpOf M S.length).length : Int) < ((ncTo M x y S.length S.length : Nat) : Int)) := by
  have hm := (vldB_shape hv).mates2
  have h1 := cut_iff hv (x := x) (y := y) (by omega) hy hox hoy (by omega)
  have h2 := mem_cuts hv (p := (x, y))
  rw [grp_ct hm, ncTo_all, decide_eq_decide, h2]
  constructor
  · rintro ⟨_, _, _, _, a, b⟩
    have := h1.2 ⟨a, b⟩; omega
  · intro g
    have := h1.1 (by omega)
    exact ⟨hxy, hy, hox, hoy, this.1, this.2⟩
set_option maxRecDepth 100000 in
set_option maxHeartbeats 4000000 in
theorem lcut_great (S M : List Int) (L : Int) (aS aM : Option Addr) (cS cM : Nat) (w : World) (hg : greatB S M L = true) :
    Calls Try.prog 5 #[.agg #[.slice aS S.length cS, .slice aM M.length cM, .int .i64 L]] w fun e w' => e = .returned (.bool true) ∧ Below w.heap.size w w' := by
  have HG : Hid (∀ W', Calls Try.prog 13 #[.agg #[.slice aS S.length cS, .slice aM M.length cM, .int .i64 L]] W' fun e w' => e = .returned (.bool true) ∧ Below W'.heap.size W' w') := Lib.hid fun W' => by
    have g := great_any S M L aS aM cS cM W'
    rw [hg] at g; exact g
  have H0 := Lib.hid ((HH.start w).alloc #[.slice aS S.length cS, .slice aM M.length cM, .int .i64 L] 24 rfl rfl)
  clear hg
  go_enter Try.func5, Try.ntmps5
  go_wp2_with fail
  refine (awake_any _).mono ?_
  rintro e w1 ⟨rfl, hb⟩
  have H1 := Lib.hid (H0.out.call hb)
  clear hb H0 
  have k0 := H1.out.cell (k := 0) (i := 0) rfl rfl
  have k1 := H1.out.cell (k := 0) (i := 1) rfl rfl
  have k2 := H1.out.cell (k := 0) (i := 2) rfl rfl
  go_wp2_with fail
  clear k0 k1 k2
  refine (HG.out _).mono ?_
  rintro e w2 ⟨rfl, hb⟩
  have H2 := Lib.hid (H1.out.call hb)
  clear hb H1 
  have k0 := H2.out.cell (k := 0) (i := 0) rfl rfl
  have k1 := H2.out.cell (k := 0) (i := 1) rfl rfl
  have k2 := H2.out.cell (k := 0) (i := 2) rfl rfl
  go_wp2_with fail
  go_ret
  exact ⟨rfl, H2.out.below⟩
set_option maxRecDepth 100000 in
set_option maxHeartbeats 4000000 in
theorem lcut_no (S M : List Int) (L : Int) (aS aM : Option Addr) (cS cM : Nat) (w : World) (hg : greatB S M L = false) (hv : vldB S M L = false) (hS : IntsAt w aS S) (hM : IntsAt w aM M) :
    Calls Try.prog 5 #[.agg #[.slice aS S.length cS, .slice aM M.length cM, .int .i64 L]] w fun e w' => e = .returned (.bool true) ∧ Below w.heap.size w w' := by
  obtain ⟨hg1, hg2⟩ := greatB_no hg
  have HG : Hid (∀ W', Calls Try.prog 13 #[.agg #[.slice aS S.length cS, .slice aM M.length cM, .int .i64 L]] W' fun e w' => e = .returned (.bool false) ∧ Below W'.heap.size W' w') := Lib.hid fun W' => by
    have g := great_any S M L aS aM cS cM W'
    rw [hg] at g; exact g
  have HV : Hid (∀ W', Below w.heap.size w W' → Calls Try.prog 26 #[.agg #[.slice aS S.length cS, .slice aM M.length cM, .int .i64 L]] W' fun e w' => e = .returned (.bool false) ∧ Below W'.heap.size W' w') := Lib.hid fun W' h => by
    have g := valid_any S M L aS aM cS cM W' (by omega) (by omega) (hS.later h) (hM.later h)
    rw [hv] at g; exact g
  have H0 := Lib.hid ((HH.start w).alloc #[.slice aS S.length cS, .slice aM M.length cM, .int .i64 L] 24 rfl rfl)
  clear hg hv hS hM
  go_enter Try.func5, Try.ntmps5
  go_wp2_with fail
  refine (awake_any _).mono ?_
  rintro e w1 ⟨rfl, hb⟩
  have H1 := Lib.hid (H0.out.call hb)
  clear hb H0 
  have k0 := H1.out.cell (k := 0) (i := 0) rfl rfl
  have k1 := H1.out.cell (k := 0) (i := 1) rfl rfl
  have k2 := H1.out.cell (k := 0) (i := 2) rfl rfl
  go_wp2_with fail
  clear k0 k1 k2
  refine (HG.out _).mono ?_
  rintro e w2 ⟨rfl, hb⟩
  have H2 := Lib.hid (H1.out.call hb)
  clear hb H1 
  have k0 := H2.out.cell (k := 0) (i := 0) rfl rfl
  have k1 := H2.out.cell (k := 0) (i := 1) rfl rfl
  have k2 := H2.out.cell (k := 0) (i := 2) rfl rfl
  go_wp2_with fail
  clear k0 k1 k2
  refine (HV.out _ H2.out.below).mono ?_
  rintro e w3 ⟨rfl, hb⟩
  have H3 := Lib.hid (H2.out.call hb)
  clear hb H2 
  go_wp2_with fail
  go_ret
  exact ⟨rfl, H3.out.below⟩
set_option maxRecDepth 100000 in
set_option maxHeartbeats 4000000 in
theorem lcut_yes (S M : List Int) (L : Int) (aS aM : Option Addr) (cS cM : Nat) (w : World) (hg : greatB S M L = false) (hv : vldB S M L = true) (hS : IntsAt w aS S) (hM : IntsAt w aM M) :
    Calls Try.prog 5 #[.agg #[.slice aS S.length cS, .slice aM M.length cM, .int .i64 L]] w fun e w' => e = .returned (.bool true) ∧ Below w.heap.size w w' := by
  obtain ⟨hg1, hg2⟩ := greatB_no hg
  have HG : Hid (∀ W', Calls Try.prog 13 #[.agg #[.slice aS S.length cS, .slice aM M.length cM, .int .i64 L]] W' fun e w' => e = .returned (.bool false) ∧ Below W'.heap.size W' w') := Lib.hid fun W' => by
    have g := great_any S M L aS aM cS cM W'
    rw [hg] at g; exact g
  have HV : Hid (∀ W', Below w.heap.size w W' → Calls Try.prog 26 #[.agg #[.slice aS S.length cS, .slice aM M.length cM, .int .i64 L]] W' fun e w' => e = .returned (.bool true) ∧ Below W'.heap.size W' w') := Lib.hid fun W' h => by
    have g := valid_any S M L aS aM cS cM W' (by omega) (by omega) (hS.later h) (hM.later h)
    rw [hv] at g; exact g
  have hs := vldB_shape hv
  have hml := hs.len
  have hN : M.length ≤ 256 := by omega
  have HC : Hid (∀ W', Below w.heap.size w W' → Calls Try.prog 27 #[.agg #[.slice aS S.length cS, .slice aM M.length cM, .int .i64 L]] W' fun e w' => ∃ A C, e = .returned (.slice A (cutsL S M).length C) ∧ (cutsL S M).length ≤ C ∧ Own w' W'.heap.size 45 A (C * 2) (prs (cutsL S M)) ∧ Below W'.heap.size W' w') := Lib.hid fun W' h => cuts_yes S M L aS aM cS cM W' hv (hS.later h) (hM.later h)
  have HGr : Hid (∀ W', Below w.heap.size w W' → Calls Try.prog 28 #[.agg #[.slice aS S.length cS, .slice aM M.length cM, .int .i64 L]] W' fun e w' => ∃ a c, e = .returned (.slice a (grpOf M S.length).length c) ∧ OwnRows w' W'.heap.size a c ((grpOf M S.length).map nats) ∧ Below W'.heap.size W' w') := Lib.hid fun W' h => graph_any S M L aS aM cS cM W' hv (hS.later h) (hM.later h)
  have HOt : Hid (∀ (h : Nat) W', h < 4 * S.length → Below w.heap.size w W' → Calls Try.prog 29 #[.agg #[.slice aS S.length cS, .slice aM M.length cM, .int .i64 L], .int .i64 (h : Int)] W' fun e w' => e = .returned (.bool (outB S h)) ∧ Below W'.heap.size W' w') := Lib.hid fun h W' hh hb => out_yes S M L aS aM cS cM h W' hv hh (hS.later hb) (hM.later hb)
  have HPi : Hid (∀ (x y : Nat) W', Below w.heap.size w W' → Calls Try.prog 31 #[.agg #[.slice aS S.length cS, .slice aM M.length cM, .int .i64 L], .int .i64 (x : Int), .int .i64 (y : Int)] W' fun e w' => e = .returned (.int .i64 ((ncTo M x y S.length S.length : Nat) : Int)) ∧ Below W'.heap.size W' w') := Lib.hid fun x y W' hb => pieces_any S M L aS aM cS cM x y W' hv (hM.later hb)
  have HLw : Hid (∀ (x y : Nat), x < y → y < 4 * S.length → outB S x = true → outB S y = true → decide ((x, y) ∈ cutsL S M) = decide (((grpOf M S.length).length : Int) < ((ncTo M x y S.length S.length : Nat) : Int))) := Lib.hid fun x y a b c d => cuts_law hv a b c d
  have hKl : (cutsL S M).length ≤ 65536 := by
    have := cutTo_len S (leftL M S.length) M (4 * S.length) (4 * S.length)
    have h2 : 4 * S.length * (4 * S.length) ≤ 256 * 256 := Nat.mul_le_mul (by omega) (by omega)
    unfold cutsL; omega
  have hgl : (grpOf M S.length).length ≤ 64 := by have := grp_len M S.length; omega
  have HQb : Hid (∀ (x y : Nat), ncTo M x y S.length S.length ≤ 64) := Lib.hid fun x y => by have := ncTo_le M x y S.length S.length; omega
  rw [← hml] at HOt HLw
  have H0 := Lib.hid ((HH.start w).alloc #[.slice aS S.length cS, .slice aM M.length cM, .int .i64 L] 24 rfl rfl)
  clear hg hv hS hM hs hml
  generalize cutsL S M = K at *
  generalize (grpOf M S.length).length = Wn at *
  generalize M.length = N at *
  generalize S.length = n at *
  go_enter Try.func5, Try.ntmps5
  go_wp2_with fail
  refine (awake_any _).mono ?_
  rintro e w1 ⟨rfl, hb⟩
  have H1 := Lib.hid (H0.out.call hb)
  clear hb H0 
  have k0 := H1.out.cell (k := 0) (i := 0) rfl rfl
  have k1 := H1.out.cell (k := 0) (i := 1) rfl rfl
  have k2 := H1.out.cell (k := 0) (i := 2) rfl rfl
  go_wp2_with fail
  clear k0 k1 k2
  refine (HG.out _).mono ?_
  rintro e w2 ⟨rfl, hb⟩
  have H2 := Lib.hid (H1.out.call hb)
  clear hb H1 
  have k0 := H2.out.cell (k := 0) (i := 0) rfl rfl
  have k1 := H2.out.cell (k := 0) (i := 1) rfl rfl
  have k2 := H2.out.cell (k := 0) (i := 2) rfl rfl
  go_wp2_with fail
  clear k0 k1 k2
  refine (HV.out _ H2.out.below).mono ?_
  rintro e w3 ⟨rfl, hb⟩
  have H3 := Lib.hid (H2.out.call hb)
  clear hb H2 
  have k0 := H3.out.cell (k := 0) (i := 0) rfl rfl
  have k1 := H3.out.cell (k := 0) (i := 1) rfl rfl
  have k2 := H3.out.cell (k := 0) (i := 2) rfl rfl
  go_wp2_with fail
  clear k0 k1 k2
  refine (HC.out _ H3.out.below).mono ?_
  rintro e w4 ⟨A4, C4, rfl, hlC, ho, hb⟩
  have H4 := Lib.hid (H3.out.addSl hb ho)
  clear hb ho H3 HC HG HV
  have k0 := H4.out.cell (k := 0) (i := 0) rfl rfl
  have k1 := H4.out.cell (k := 0) (i := 1) rfl rfl
  have k2 := H4.out.cell (k := 0) (i := 2) rfl rfl
  go_wp2_with fail
  clear k0 k1 k2
  refine (HGr.out _ H4.out.below).mono ?_
  rintro e w5 ⟨aG, cG, rfl, _, hb⟩
  have H5 := Lib.hid (H4.out.call hb)
  clear hb H4 HGr
  have k1 := H5.out.cell (k := 0) (i := 1) rfl rfl
  go_wp2_with fail
  clear k1
  have HOx : Hid (∀ (h : Nat) W', h < N → HH w W' [(w.heap.size, rowO 24 [.slice aS n cS, .slice aM N cM, .int .i64 L])] [⟨A4, C4 * 2, 45, prs K⟩] → Calls Try.prog 29 #[.agg #[.slice aS n cS, .slice aM N cM, .int .i64 L], .int .i64 (h : Int)] W' fun e w' => e = .returned (.bool (outB S h)) ∧ HH w w' [(w.heap.size, rowO 24 [.slice aS n cS, .slice aM N cM, .int .i64 L])] [⟨A4, C4 * 2, 45, prs K⟩]) := Lib.hid fun h W' hh g => (HOt.out h W' hh g.below).mono fun e w' ⟨he, hb⟩ => ⟨he, g.call hb⟩
  have HPx : Hid (∀ (x y : Nat) W', HH w W' [(w.heap.size, rowO 24 [.slice aS n cS, .slice aM N cM, .int .i64 L])] [⟨A4, C4 * 2, 45, prs K⟩] → Calls Try.prog 31 #[.agg #[.slice aS n cS, .slice aM N cM, .int .i64 L], .int .i64 (x : Int), .int .i64 (y : Int)] W' fun e w' => e = .returned (.int .i64 ((ncTo M x y n n : Nat) : Int)) ∧ HH w w' [(w.heap.size, rowO 24 [.slice aS n cS, .slice aM N cM, .int .i64 L])] [⟨A4, C4 * 2, 45, prs K⟩]) := Lib.hid fun x y W' g => (HPi.out x y W' g.below).mono fun e w' ⟨he, hb⟩ => ⟨he, g.call hb⟩
  have HCx : Hid (∀ (x y : Nat) W', HH w W' [(w.heap.size, rowO 24 [.slice aS n cS, .slice aM N cM, .int .i64 L])] [⟨A4, C4 * 2, 45, prs K⟩] → Calls Try.prog 30 #[.slice A4 K.length C4, .agg #[.int .i64 (x : Int), .int .i64 (y : Int)]] W' fun e w' => e = .returned (.bool (decide ((x, y) ∈ K))) ∧ HH w w' [(w.heap.size, rowO 24 [.slice aS n cS, .slice aM N cM, .int .i64 L])] [⟨A4, C4 * 2, 45, prs K⟩]) := Lib.hid fun x y W' g => (pcontains_any K A4 C4 x y W' (by omega) (g.sl (k := 0) rfl).at).mono fun e w' ⟨he, hb⟩ => ⟨he, g.call hb⟩
  clear HOt HPi
  go_loopg [24] N (fun g v wr => ∃ x : Nat, x ≤ N ∧ g = N - x ∧ v = .int .i64 x ∧ HH w wr [(w.heap.size, rowO 24 [.slice aS n cS, .slice aM N cM, .int .i64 L])] [⟨A4, C4 * 2, 45, prs K⟩])
  case atStart => exact ⟨0, Nat.zero_le _, rfl, rfl, H5.out⟩
  case round =>
    obtain ⟨x, hx, rfl, rfl, hh⟩ := hrel
    have Hh := Lib.hid hh
    clear hh H5
    by_cases hxN : x < N
    · have k1 := Hh.out.cell (k := 0) (i := 1) rfl rfl
      go_wp2_with fail
      clear k1
      go_loopg [6] (N - (x + 1)) (fun g v wr => ∃ y : Nat, x < y ∧ y ≤ N ∧ g = N - y ∧ v = .int .i64 y ∧ HH w wr [(w.heap.size, rowO 24 [.slice aS n cS, .slice aM N cM, .int .i64 L])] [⟨A4, C4 * 2, 45, prs K⟩])
      case atStart => exact ⟨x + 1, by omega, by omega, rfl, by go_num, Hh.out⟩
      case round =>
        obtain ⟨y, hxy, hy, rfl, rfl, hh⟩ := hrel
        replace Hh := Lib.hid hh
        clear hh
        have k1 := Hh.out.cell (k := 0) (i := 1) rfl rfl
        by_cases hyN : y < N
        · have HX1 := Lib.hid (fun W' => HOx.out x W' hxN)
          have HX2 := Lib.hid (fun W' => HOx.out y W' hyN)
          have HX3 := Lib.hid (fun W' => HCx.out x y W')
          have HX4 := Lib.hid (fun W' => HPx.out x y W')
          have hLx := HLw.out x y hxy hyN
          have hq := HQb.out x y
          generalize ncTo M x y n n = q at *
          generalize decide ((x, y) ∈ K) = t at *
          generalize outB S x = ox at *
          generalize outB S y = oy at *
          go_wp2_with fail
          clear k1
          refine wp_region_class (fun W => HH w W [(w.heap.size, rowO 24 [.slice aS n cS, .slice aM N cM, .int .i64 L])] [⟨A4, C4 * 2, 45, prs K⟩]) (by kernel_rfl) (by kernel_rfl) Hh.out.drew ?_
          cases ox
          · clear hLx
            refine no_implicit_lambda% (wpQuiet_loadRow (.tmp 1) 24 (w.heap.size) 24 [.slice aS n cS, .slice aM N cM, .int .i64 (L)] rfl rfl (by kernel_rfl) Try.isAgg24 Try.sizeOf24 (fun W' h => h.row (k := 0) rfl) ?_)
            simp only [Act.put, List.setIfInBounds_toArray, List.set_cons_succ, List.set_cons_zero]
            refine no_implicit_lambda% (wpQuiet_move (.tmp 5) (.int .i64 (x : Int)) rfl rfl (by kernel_rfl) ?_)
            simp only [Act.put, List.setIfInBounds_toArray, List.set_cons_succ, List.set_cons_zero]
            refine no_implicit_lambda% (wpQuiet_call (.bool false) 29 _ _ [.agg #[.slice aS n cS, .slice aM N cM, .int .i64 (L)], .int .i64 (x : Int)] rfl rfl (by kernel_rfl) Try.call29 (fun W' h => HX1.out W' h) ?_)
            simp only [Act.put, List.setIfInBounds_toArray, List.set_cons_succ, List.set_cons_zero]
            refine no_implicit_lambda% (wpQuiet_move (.tmp 38) (.bool false) rfl rfl (by kernel_rfl) ?_)
            simp only [Act.put, List.setIfInBounds_toArray, List.set_cons_succ, List.set_cons_zero]
            go_big_quiet_skip
            go_big_quiet_skip
            go_big_quiet_skip
            refine no_implicit_lambda% (wpQuiet_val (.bool false) rfl (fun W' hW' => ?_) ?_)
            · skip
              go_simp
            simp only [Act.put, List.setIfInBounds_toArray, List.set_cons_succ, List.set_cons_zero]
            refine no_implicit_lambda% (wpQuiet_move (.tmp 43) (.bool false) rfl rfl (by kernel_rfl) ?_)
            simp only [Act.put, List.setIfInBounds_toArray, List.set_cons_succ, List.set_cons_zero]
            go_big_quiet_skip
            go_big_quiet_skip
            go_big_quiet_skip
            go_big_quiet_skip
            go_big_quiet_skip
            go_big_quiet_skip
            go_big_quiet_skip
            go_big_quiet_skip
            go_big_quiet_skip
            go_big_quiet_skip
            go_big_quiet_skip
            go_big_quiet_skip
            refine no_implicit_lambda% (wpQuiet_val (.bool false) rfl (fun W' hW' => ?_) ?_)
            · skip
              go_simp
            simp only [Act.put, List.setIfInBounds_toArray, List.set_cons_succ, List.set_cons_zero]
            refine no_implicit_lambda% (wpQuiet_end ?_)
            intro w6 hw6
            have Hx := Lib.hid hw6
            clear hw6
            go_wp2_with fail
            go_roundg (N - (y + 1))
            case measure => omega
            case rel => exact ⟨y + 1, by omega, by omega, rfl, by go_num, Hx.out⟩
          · cases oy
            · clear hLx
              refine no_implicit_lambda% (wpQuiet_loadRow (.tmp 1) 24 (w.heap.size) 24 [.slice aS n cS, .slice aM N cM, .int .i64 (L)] rfl rfl (by kernel_rfl) Try.isAgg24 Try.sizeOf24 (fun W' h => h.row (k := 0) rfl) ?_)
              simp only [Act.put, List.setIfInBounds_toArray, List.set_cons_succ, List.set_cons_zero]
              refine no_implicit_lambda% (wpQuiet_move (.tmp 5) (.int .i64 (x : Int)) rfl rfl (by kernel_rfl) ?_)
              simp only [Act.put, List.setIfInBounds_toArray, List.set_cons_succ, List.set_cons_zero]
              refine no_implicit_lambda% (wpQuiet_call (.bool true) 29 _ _ [.agg #[.slice aS n cS, .slice aM N cM, .int .i64 (L)], .int .i64 (x : Int)] rfl rfl (by kernel_rfl) Try.call29 (fun W' h => HX1.out W' h) ?_)
              simp only [Act.put, List.setIfInBounds_toArray, List.set_cons_succ, List.set_cons_zero]
              refine no_implicit_lambda% (wpQuiet_move (.tmp 38) (.bool true) rfl rfl (by kernel_rfl) ?_)
              simp only [Act.put, List.setIfInBounds_toArray, List.set_cons_succ, List.set_cons_zero]
              refine no_implicit_lambda% (wpQuietW_loadRow (.tmp 1) 24 (w.heap.size) 24 [.slice aS n cS, .slice aM N cM, .int .i64 (L)] (by kernel_rfl) rfl (by kernel_rfl) Try.isAgg24 Try.sizeOf24 (fun W' h => h.row (k := 0) rfl) ?_)
              simp only [Act.put, List.setIfInBounds_toArray, List.set_cons_succ, List.set_cons_zero]
              refine no_implicit_lambda% (wpQuietW_move (.tmp 6) (.int .i64 (y : Int)) (by kernel_rfl) rfl (by kernel_rfl) ?_)
              simp only [Act.put, List.setIfInBounds_toArray, List.set_cons_succ, List.set_cons_zero]
              refine no_implicit_lambda% (wpQuietW_call (.bool false) 29 _ _ [.agg #[.slice aS n cS, .slice aM N cM, .int .i64 (L)], .int .i64 (y : Int)] (by kernel_rfl) rfl (by kernel_rfl) Try.call29 (fun W' h => HX2.out W' h) ?_)
              simp only [Act.put, List.setIfInBounds_toArray, List.set_cons_succ, List.set_cons_zero]
              refine no_implicit_lambda% (wpQuiet_val (.bool false) rfl (fun W' hW' => ?_) ?_)
              · skip
                go_simp
              simp only [Act.put, List.setIfInBounds_toArray, List.set_cons_succ, List.set_cons_zero]
              refine no_implicit_lambda% (wpQuiet_move (.tmp 43) (.bool false) rfl rfl (by kernel_rfl) ?_)
              simp only [Act.put, List.setIfInBounds_toArray, List.set_cons_succ, List.set_cons_zero]
              go_big_quiet_skip
              go_big_quiet_skip
              go_big_quiet_skip
              go_big_quiet_skip
              go_big_quiet_skip
              go_big_quiet_skip
              go_big_quiet_skip
              go_big_quiet_skip
              go_big_quiet_skip
              go_big_quiet_skip
              go_big_quiet_skip
              go_big_quiet_skip
              refine no_implicit_lambda% (wpQuiet_val (.bool false) rfl (fun W' hW' => ?_) ?_)
              · skip
                go_simp
              simp only [Act.put, List.setIfInBounds_toArray, List.set_cons_succ, List.set_cons_zero]
              refine no_implicit_lambda% (wpQuiet_end ?_)
              intro w6 hw6
              have Hx := Lib.hid hw6
              clear hw6
              go_wp2_with fail
              go_roundg (N - (y + 1))
              case measure => omega
              case rel => exact ⟨y + 1, by omega, by omega, rfl, by go_num, Hx.out⟩
            · have ht := (hLx rfl rfl).symm
              clear hLx
              cases t
              · have hq2 := of_decide_eq_false ht
                refine no_implicit_lambda% (wpQuiet_loadRow (.tmp 1) 24 (w.heap.size) 24 [.slice aS n cS, .slice aM N cM, .int .i64 (L)] rfl rfl (by kernel_rfl) Try.isAgg24 Try.sizeOf24 (fun W' h => h.row (k := 0) rfl) ?_)
                simp only [Act.put, List.setIfInBounds_toArray, List.set_cons_succ, List.set_cons_zero]
                refine no_implicit_lambda% (wpQuiet_move (.tmp 5) (.int .i64 (x : Int)) rfl rfl (by kernel_rfl) ?_)
                simp only [Act.put, List.setIfInBounds_toArray, List.set_cons_succ, List.set_cons_zero]
                refine no_implicit_lambda% (wpQuiet_call (.bool true) 29 _ _ [.agg #[.slice aS n cS, .slice aM N cM, .int .i64 (L)], .int .i64 (x : Int)] rfl rfl (by kernel_rfl) Try.call29 (fun W' h => HX1.out W' h) ?_)
                simp only [Act.put, List.setIfInBounds_toArray, List.set_cons_succ, List.set_cons_zero]
                refine no_implicit_lambda% (wpQuiet_move (.tmp 38) (.bool true) rfl rfl (by kernel_rfl) ?_)
                simp only [Act.put, List.setIfInBounds_toArray, List.set_cons_succ, List.set_cons_zero]
                refine no_implicit_lambda% (wpQuietW_loadRow (.tmp 1) 24 (w.heap.size) 24 [.slice aS n cS, .slice aM N cM, .int .i64 (L)] (by kernel_rfl) rfl (by kernel_rfl) Try.isAgg24 Try.sizeOf24 (fun W' h => h.row (k := 0) rfl) ?_)
                simp only [Act.put, List.setIfInBounds_toArray, List.set_cons_succ, List.set_cons_zero]
                refine no_implicit_lambda% (wpQuietW_move (.tmp 6) (.int .i64 (y : Int)) (by kernel_rfl) rfl (by kernel_rfl) ?_)
                simp only [Act.put, List.setIfInBounds_toArray, List.set_cons_succ, List.set_cons_zero]
                refine no_implicit_lambda% (wpQuietW_call (.bool true) 29 _ _ [.agg #[.slice aS n cS, .slice aM N cM, .int .i64 (L)], .int .i64 (y : Int)] (by kernel_rfl) rfl (by kernel_rfl) Try.call29 (fun W' h => HX2.out W' h) ?_)
                simp only [Act.put, List.setIfInBounds_toArray, List.set_cons_succ, List.set_cons_zero]
                refine no_implicit_lambda% (wpQuiet_val (.bool true) rfl (fun W' hW' => ?_) ?_)
                · skip
                  go_simp
                simp only [Act.put, List.setIfInBounds_toArray, List.set_cons_succ, List.set_cons_zero]
                refine no_implicit_lambda% (wpQuiet_move (.tmp 43) (.bool true) rfl rfl (by kernel_rfl) ?_)
                simp only [Act.put, List.setIfInBounds_toArray, List.set_cons_succ, List.set_cons_zero]
                refine no_implicit_lambda% (wpQuietW_move (.tmp 3) (.slice A4 K.length C4) (by kernel_rfl) rfl (by kernel_rfl) ?_)
                simp only [Act.put, List.setIfInBounds_toArray, List.set_cons_succ, List.set_cons_zero]
                refine no_implicit_lambda% (wpQuietW_move (.tmp 5) (.int .i64 (x : Int)) (by kernel_rfl) rfl (by kernel_rfl) ?_)
                simp only [Act.put, List.setIfInBounds_toArray, List.set_cons_succ, List.set_cons_zero]
                refine no_implicit_lambda% (wpQuietW_move (.tmp 6) (.int .i64 (y : Int)) (by kernel_rfl) rfl (by kernel_rfl) ?_)
                simp only [Act.put, List.setIfInBounds_toArray, List.set_cons_succ, List.set_cons_zero]
                refine no_implicit_lambda% (wpQuietW_val (.agg #[.int .i64 (x : Int), .int .i64 (y : Int)]) (by kernel_rfl) (fun W' hW' => ?_) ?_)
                · skip
                  go_simp
                simp only [Act.put, List.setIfInBounds_toArray, List.set_cons_succ, List.set_cons_zero]
                refine no_implicit_lambda% (wpQuietW_call (.bool false) 30 _ _ [.slice A4 K.length C4, .agg #[.int .i64 (x : Int), .int .i64 (y : Int)]] (by kernel_rfl) rfl (by kernel_rfl) Try.call30 (fun W' h => HX3.out W' h) ?_)
                simp only [Act.put, List.setIfInBounds_toArray, List.set_cons_succ, List.set_cons_zero]
                refine no_implicit_lambda% (wpQuietW_loadRow (.tmp 1) 24 (w.heap.size) 24 [.slice aS n cS, .slice aM N cM, .int .i64 (L)] (by kernel_rfl) rfl (by kernel_rfl) Try.isAgg24 Try.sizeOf24 (fun W' h => h.row (k := 0) rfl) ?_)
                simp only [Act.put, List.setIfInBounds_toArray, List.set_cons_succ, List.set_cons_zero]
                refine no_implicit_lambda% (wpQuietW_move (.tmp 5) (.int .i64 (x : Int)) (by kernel_rfl) rfl (by kernel_rfl) ?_)
                simp only [Act.put, List.setIfInBounds_toArray, List.set_cons_succ, List.set_cons_zero]
                refine no_implicit_lambda% (wpQuietW_move (.tmp 6) (.int .i64 (y : Int)) (by kernel_rfl) rfl (by kernel_rfl) ?_)
                simp only [Act.put, List.setIfInBounds_toArray, List.set_cons_succ, List.set_cons_zero]
                refine no_implicit_lambda% (wpQuietW_call (.int .i64 (q : Int)) 31 _ _ [.agg #[.slice aS n cS, .slice aM N cM, .int .i64 (L)], .int .i64 (x : Int), .int .i64 (y : Int)] (by kernel_rfl) rfl (by kernel_rfl) Try.call31 (fun W' h => HX4.out W' h) ?_)
                simp only [Act.put, List.setIfInBounds_toArray, List.set_cons_succ, List.set_cons_zero]
                refine no_implicit_lambda% (wpQuietW_move (.tmp 4) (.int .i64 (Wn : Int)) (by kernel_rfl) rfl (by kernel_rfl) ?_)
                simp only [Act.put, List.setIfInBounds_toArray, List.set_cons_succ, List.set_cons_zero]
                refine no_implicit_lambda% (wpQuietW_val (.bool false) (by kernel_rfl) (fun W' hW' => ?_) ?_)
                · skip
                  go_simp
                simp only [Act.put, List.setIfInBounds_toArray, List.set_cons_succ, List.set_cons_zero]
                refine no_implicit_lambda% (wpQuietW_val (.bool false) (by kernel_rfl) (fun W' hW' => ?_) ?_)
                · skip
                  go_simp
                simp only [Act.put, List.setIfInBounds_toArray, List.set_cons_succ, List.set_cons_zero]
                refine no_implicit_lambda% (wpQuiet_val (.bool false) rfl (fun W' hW' => ?_) ?_)
                · skip
                  go_simp
                simp only [Act.put, List.setIfInBounds_toArray, List.set_cons_succ, List.set_cons_zero]
                refine no_implicit_lambda% (wpQuiet_end ?_)
                intro w6 hw6
                have Hx := Lib.hid hw6
                clear hw6
                go_wp2_with fail
                go_roundg (N - (y + 1))
                case measure => omega
                case rel => exact ⟨y + 1, by omega, by omega, rfl, by go_num, Hx.out⟩
              · have hq2 := of_decide_eq_true ht
                refine no_implicit_lambda% (wpQuiet_loadRow (.tmp 1) 24 (w.heap.size) 24 [.slice aS n cS, .slice aM N cM, .int .i64 (L)] rfl rfl (by kernel_rfl) Try.isAgg24 Try.sizeOf24 (fun W' h => h.row (k := 0) rfl) ?_)
                simp only [Act.put, List.setIfInBounds_toArray, List.set_cons_succ, List.set_cons_zero]
                refine no_implicit_lambda% (wpQuiet_move (.tmp 5) (.int .i64 (x : Int)) rfl rfl (by kernel_rfl) ?_)
                simp only [Act.put, List.setIfInBounds_toArray, List.set_cons_succ, List.set_cons_zero]
                refine no_implicit_lambda% (wpQuiet_call (.bool true) 29 _ _ [.agg #[.slice aS n cS, .slice aM N cM, .int .i64 (L)], .int .i64 (x : Int)] rfl rfl (by kernel_rfl) Try.call29 (fun W' h => HX1.out W' h) ?_)
                simp only [Act.put, List.setIfInBounds_toArray, List.set_cons_succ, List.set_cons_zero]
                refine no_implicit_lambda% (wpQuiet_move (.tmp 38) (.bool true) rfl rfl (by kernel_rfl) ?_)
                simp only [Act.put, List.setIfInBounds_toArray, List.set_cons_succ, List.set_cons_zero]
                refine no_implicit_lambda% (wpQuietW_loadRow (.tmp 1) 24 (w.heap.size) 24 [.slice aS n cS, .slice aM N cM, .int .i64 (L)] (by kernel_rfl) rfl (by kernel_rfl) Try.isAgg24 Try.sizeOf24 (fun W' h => h.row (k := 0) rfl) ?_)
                simp only [Act.put, List.setIfInBounds_toArray, List.set_cons_succ, List.set_cons_zero]
                refine no_implicit_lambda% (wpQuietW_move (.tmp 6) (.int .i64 (y : Int)) (by kernel_rfl) rfl (by kernel_rfl) ?_)
                simp only [Act.put, List.setIfInBounds_toArray, List.set_cons_succ, List.set_cons_zero]
                refine no_implicit_lambda% (wpQuietW_call (.bool true) 29 _ _ [.agg #[.slice aS n cS, .slice aM N cM, .int .i64 (L)], .int .i64 (y : Int)] (by kernel_rfl) rfl (by kernel_rfl) Try.call29 (fun W' h => HX2.out W' h) ?_)
                simp only [Act.put, List.setIfInBounds_toArray, List.set_cons_succ, List.set_cons_zero]
                refine no_implicit_lambda% (wpQuiet_val (.bool true) rfl (fun W' hW' => ?_) ?_)
                · skip
                  go_simp
                simp only [Act.put, List.setIfInBounds_toArray, List.set_cons_succ, List.set_cons_zero]
                refine no_implicit_lambda% (wpQuiet_move (.tmp 43) (.bool true) rfl rfl (by kernel_rfl) ?_)
                simp only [Act.put, List.setIfInBounds_toArray, List.set_cons_succ, List.set_cons_zero]
                refine no_implicit_lambda% (wpQuietW_move (.tmp 3) (.slice A4 K.length C4) (by kernel_rfl) rfl (by kernel_rfl) ?_)
                simp only [Act.put, List.setIfInBounds_toArray, List.set_cons_succ, List.set_cons_zero]
                refine no_implicit_lambda% (wpQuietW_move (.tmp 5) (.int .i64 (x : Int)) (by kernel_rfl) rfl (by kernel_rfl) ?_)
                simp only [Act.put, List.setIfInBounds_toArray, List.set_cons_succ, List.set_cons_zero]
                refine no_implicit_lambda% (wpQuietW_move (.tmp 6) (.int .i64 (y : Int)) (by kernel_rfl) rfl (by kernel_rfl) ?_)
                simp only [Act.put, List.setIfInBounds_toArray, List.set_cons_succ, List.set_cons_zero]
                refine no_implicit_lambda% (wpQuietW_val (.agg #[.int .i64 (x : Int), .int .i64 (y : Int)]) (by kernel_rfl) (fun W' hW' => ?_) ?_)
                · skip
                  go_simp
                simp only [Act.put, List.setIfInBounds_toArray, List.set_cons_succ, List.set_cons_zero]
                refine no_implicit_lambda% (wpQuietW_call (.bool true) 30 _ _ [.slice A4 K.length C4, .agg #[.int .i64 (x : Int), .int .i64 (y : Int)]] (by kernel_rfl) rfl (by kernel_rfl) Try.call30 (fun W' h => HX3.out W' h) ?_)
                simp only [Act.put, List.setIfInBounds_toArray, List.set_cons_succ, List.set_cons_zero]
                refine no_implicit_lambda% (wpQuietW_loadRow (.tmp 1) 24 (w.heap.size) 24 [.slice aS n cS, .slice aM N cM, .int .i64 (L)] (by kernel_rfl) rfl (by kernel_rfl) Try.isAgg24 Try.sizeOf24 (fun W' h => h.row (k := 0) rfl) ?_)
                simp only [Act.put, List.setIfInBounds_toArray, List.set_cons_succ, List.set_cons_zero]
                refine no_implicit_lambda% (wpQuietW_move (.tmp 5) (.int .i64 (x : Int)) (by kernel_rfl) rfl (by kernel_rfl) ?_)
                simp only [Act.put, List.setIfInBounds_toArray, List.set_cons_succ, List.set_cons_zero]
                refine no_implicit_lambda% (wpQuietW_move (.tmp 6) (.int .i64 (y : Int)) (by kernel_rfl) rfl (by kernel_rfl) ?_)
                simp only [Act.put, List.setIfInBounds_toArray, List.set_cons_succ, List.set_cons_zero]
                refine no_implicit_lambda% (wpQuietW_call (.int .i64 (q : Int)) 31 _ _ [.agg #[.slice aS n cS, .slice aM N cM, .int .i64 (L)], .int .i64 (x : Int), .int .i64 (y : Int)] (by kernel_rfl) rfl (by kernel_rfl) Try.call31 (fun W' h => HX4.out W' h) ?_)
                simp only [Act.put, List.setIfInBounds_toArray, List.set_cons_succ, List.set_cons_zero]
                refine no_implicit_lambda% (wpQuietW_move (.tmp 4) (.int .i64 (Wn : Int)) (by kernel_rfl) rfl (by kernel_rfl) ?_)
                simp only [Act.put, List.setIfInBounds_toArray, List.set_cons_succ, List.set_cons_zero]
                refine no_implicit_lambda% (wpQuietW_val (.bool true) (by kernel_rfl) (fun W' hW' => ?_) ?_)
                · skip
                  go_simp
                simp only [Act.put, List.setIfInBounds_toArray, List.set_cons_succ, List.set_cons_zero]
                refine no_implicit_lambda% (wpQuietW_val (.bool false) (by kernel_rfl) (fun W' hW' => ?_) ?_)
                · skip
                  go_simp
                simp only [Act.put, List.setIfInBounds_toArray, List.set_cons_succ, List.set_cons_zero]
                refine no_implicit_lambda% (wpQuiet_val (.bool false) rfl (fun W' hW' => ?_) ?_)
                · skip
                  go_simp
                simp only [Act.put, List.setIfInBounds_toArray, List.set_cons_succ, List.set_cons_zero]
                refine no_implicit_lambda% (wpQuiet_end ?_)
                intro w6 hw6
                have Hx := Lib.hid hw6
                clear hw6
                go_wp2_with fail
                go_roundg (N - (y + 1))
                case measure => omega
                case rel => exact ⟨y + 1, by omega, by omega, rfl, by go_num, Hx.out⟩
        · obtain rfl : y = N := by omega
          go_wp2_with fail
          go_roundg (y - (x + 1))
          case measure => omega
          case rel => exact ⟨x + 1, by omega, rfl, by go_num, Hh.out⟩
    · obtain rfl : x = N := by omega
      go_wp2_with fail
      go_ret
      exact ⟨rfl, Hh.out.below⟩
theorem lcut_any (S M : List Int) (L : Int) (aS aM : Option Addr) (cS cM : Nat) (w : World) (_ : S.length ≤ maxLen) (_ : M.length ≤ maxLen) (_ : (Lit.int .i64 L).wf = true) (hS : IntsAt w aS S) (hM : IntsAt w aM M) :
    Calls Try.prog 5 #[.agg #[.slice aS S.length cS, .slice aM M.length cM, .int .i64 L]] w fun e w' => e = .returned (.bool true) ∧ Below w.heap.size w w' := by
  cases hg : greatB S M L
  · cases hv : vldB S M L
    · exact lcut_no S M L aS aM cS cM w hg hv hS hM
    · exact lcut_yes S M L aS aM cS cM w hg hv hS hM
  · exact lcut_great S M L aS aM cS cM w hg
end Go.Proofs.Ytmjoijfafachhaa
