/- The walk of the law QuandleAutomorphisms. -/
import Derived.Test.YtlgiponfcmeiiaaDoorAutP
import Derived.Test.YtlgiponfcmeiiaaDoorLDih
namespace Go.Proofs.YtlgiponfcmeiiaaDoor
open Go Go.RowKit
set_option maxRecDepth 100000 in
set_option maxHeartbeats 4000000 in
theorem laut_s (T : List (List Int)) (a : Option Addr) (c : Nat) (kk : Int) (w : World) (hs : ¬ Sml T) (hT : TabAt w a T) :
    Calls Tryd.prog 9 #[.slice a T.length c, .int .u8 kk] w fun e w' => e = .returned (.bool true) ∧ Below w.heap.size w w' := by
  have HS : Hid (∀ W', Below w.heap.size w W' → Calls Tryd.prog 17 #[.slice a T.length c] W' fun e w' => e = .returned (.int .i64 0) ∧ Below W'.heap.size W' w') := Lib.hid fun W' h => small_no T a c W' (hT.later h) hs
  clear hs hT
  generalize T.length = n at *
  go_enter Tryd.func9, Tryd.ntmps9
  go_wp2_with fail
  refine (awake_any w).mono ?_
  rintro e w1 ⟨rfl, hb⟩
  have H1 := Lib.hid (((HH.start w).call hb).alloc #[.slice a n c] 25 rfl rfl)
  clear hb
  obtain ⟨v1, hv⟩ : ∃ x, x = w1.alloc (.cells #[.slice a n c] 25) := ⟨_, rfl⟩
  go_wp2_with fail
  rw [← hv]
  rw [← hv] at H1
  generalize w1.heap.size = q1 at *
  clear hv
  refine (HS.out v1 H1.out.below).mono ?_
  rintro e w2 ⟨rfl, hb⟩
  have H2 := Lib.hid (H1.out.call hb)
  clear hb H1 HS
  go_wp2_with fail
  go_ret
  exact ⟨rfl, H2.out.below⟩
set_option maxRecDepth 100000 in
set_option maxHeartbeats 4000000 in
theorem laut_n (T : List (List Int)) (a : Option Addr) (c : Nat) (kk : Int) (w : World) (hs : Sml T) (hq : ¬ Qnd T) (hT : TabAt w a T) :
    Calls Tryd.prog 9 #[.slice a T.length c, .int .u8 kk] w fun e w' => e = .returned (.bool true) ∧ Below w.heap.size w w' := by
  have HS : Hid (∀ W', Below w.heap.size w W' → Calls Tryd.prog 17 #[.slice a T.length c] W' fun e w' => e = .returned (.int .i64 1) ∧ Below W'.heap.size W' w') := Lib.hid fun W' h => small_yes T a c W' (hT.later h) hs
  have HV : Hid (∀ W', Below w.heap.size w W' → Calls Tryd.prog 15 #[.agg #[.slice a T.length c]] W' fun e w' => e = .returned (.bool (okB (Qnd T))) ∧ Below W'.heap.size W' w') := Lib.hid fun W' h => qvalid_any T a c W' (by have := hs.1; omega) (fun l hl => by have := hs.rows l hl; omega) (hT.later h)
  rw [okB_no hq] at HV
  clear hs hT hq
  generalize T.length = n at *
  go_enter Tryd.func9, Tryd.ntmps9
  go_wp2_with fail
  refine (awake_any w).mono ?_
  rintro e w1 ⟨rfl, hb⟩
  have H1 := Lib.hid (((HH.start w).call hb).alloc #[.slice a n c] 25 rfl rfl)
  clear hb
  obtain ⟨v1, hv⟩ : ∃ x, x = w1.alloc (.cells #[.slice a n c] 25) := ⟨_, rfl⟩
  go_wp2_with fail
  rw [← hv]
  rw [← hv] at H1
  generalize w1.heap.size = q1 at *
  clear hv
  refine (HS.out v1 H1.out.below).mono ?_
  rintro e w2 ⟨rfl, hb⟩
  have H2 := Lib.hid (H1.out.call hb)
  clear hb H1 HS
  have hc0 := H2.out.cell (k := 0) (i := 0) rfl rfl
  go_wp2_with fail
  clear hc0
  refine (HV.out w2 H2.out.below).mono ?_
  rintro e w3 ⟨rfl, hb⟩
  have H3 := Lib.hid (H2.out.call hb)
  clear hb H2 HV
  go_wp2_with fail
  go_ret
  exact ⟨rfl, H3.out.below⟩
set_option maxRecDepth 100000 in
set_option maxHeartbeats 4000000 in
theorem laut_y (T : List (List Int)) (n b o : Nat) (P Q C : Nat → Nat) (c m z : Nat) (w : World) (hn : T.length = n) (hs : Sml T) (hq : Qnd T) (hG : Grd w b o P Q C n (tbn T)) (hm : m ≤ 255) (hz : m % n = z) :
    Calls Tryd.prog 9 #[.slice (some ⟨b, o, none⟩) n c, .int .u8 (m : Int)] w fun e w' => e = .returned (.bool true) ∧ Below w.heap.size w w' := by
  have hsh := hq.2.1
  have hl := hq.1
  rw [hn] at hsh hl
  have hT := grd_tab hG hsh
  have HS : Hid (∀ W', Below w.heap.size w W' → Calls Tryd.prog 17 #[.slice (some ⟨b, o, none⟩) n c] W' fun e w' => e = .returned (.int .i64 1) ∧ Below W'.heap.size W' w') := Lib.hid fun W' h => by rw [← hn]; exact small_yes T _ c W' (hT.later h) hs
  have HV : Hid (∀ W', Below w.heap.size w W' → Calls Tryd.prog 15 #[.agg #[.slice (some ⟨b, o, none⟩) n c]] W' fun e w' => e = .returned (.bool true) ∧ Below W'.heap.size W' w') := Lib.hid fun W' h => by
    have g := qvalid_any T (some ⟨b, o, none⟩) c W' (by have := hs.1; omega) (fun l hl => by have := hs.rows l hl; omega) (hT.later h)
    rw [okB_yes hq, hn] at g
    exact g
  have HO : Hid (∀ W', Below w.heap.size w W' → Calls Tryd.prog 20 #[.agg #[.slice (some ⟨b, o, none⟩) n c]] W' fun e w' => ∃ A E, e = .returned (.slice A (orbT (tbn T) n).length E) ∧ OwnRows w' W'.heap.size A E (orbT (tbn T) n) ∧ Below W'.heap.size W' w') := Lib.hid fun W' h => orb_new T n _ c W' hn (hT.later h) hq
  have HI : Hid (∀ x y u W', Below w.heap.size w W' → x < n → y < n → u < n → tbn T u y = x → Calls Tryd.prog 18 #[.agg #[.slice (some ⟨b, o, none⟩) n c], .int .i64 (x : Int), .int .i64 (y : Int)] W' fun e w' => e = .returned (.int .i64 (u : Int)) ∧ Below W'.heap.size W' w') := Lib.hid fun x y u W' h hx hy hu he => inv_yes T n b o P Q C c x y u W' hn hq (hG.later h) hx hy hu he
  have Hlt : Hid (∀ x y, x < n → y < n → tbn T x y < n) := Lib.hid fun x y hx hy => (tb_tbn hsh hx hy).2
  have Hiv : Hid (IvtN (tbn T) n) := Lib.hid ((ivt_iff hsh).1 (by rw [← hn]; exact hq.2.2.2.1))
  have Hds : Hid (DstN (tbn T) n) := Lib.hid ((dst_iff hsh).1 (by rw [← hn]; exact hq.2.2.2.2))
  have HG := Lib.hid hG
  have h1 := hl.1
  have h30 := hl.2
  generalize tbn T = f at *
  have HU : Hid (∀ i, i < (orbT f n).length → ∀ j, j < ((orbT f n).getD i []).length → ∃ v : Nat, v < n ∧ nth ((orbT f n).getD i []) j = (v : Int)) := Lib.hid fun i hi j hj => orb_ent hi hj
  have HUr : Hid (∀ i, i < (orbT f n).length → ((orbT f n).getD i []).length ≤ 30) := Lib.hid fun i hi => by obtain ⟨u, _, he⟩ := orb_row hi; rw [he]; have := cls_len f n u; omega
  have hUl : (orbT f n).length ≤ 30 := by have := orbK_len f n n; unfold orbT; omega
  have hzn : z < n := by rw [← hz]; exact Nat.mod_lt _ (by omega)
  have HK : Hid (∀ x, x < n → obI (orbT f n) (orbT f n).length (f x z) = obI (orbT f n) (orbT f n).length x) := Lib.hid fun x hx => ob_keep Hlt.out Hiv.out hx hzn
  have Hon : Hid (∀ x, x < n → ∃ u, u < n ∧ f u z = x) := Lib.hid fun x hx => qnd_onto Hlt.out Hiv.out hx hzn
  have hn0 : (n : Int) ≠ 0 := by omega
  have hn00 : n ≠ 0 := by omega
  have f1 : (m : Int) % (n : Int) = (z : Int) := by rw [← hz]; exact (Int.natCast_emod _ _).symm
  have f2 : (m : Int).tmod (n : Int) = (z : Int) := by rw [Int.tmod_eq_emod_of_nonneg (by omega)]; exact f1
  have hmk := run_mk1 (T := 36) (z := .int .i64 0) (bytes := 8) Tryd.underlying36 Tryd.info3 rfl n n (Nat.le_refl _) (by omega) (by omega)
  clear hn hs hq hG hT hsh hl hz Hiv
  generalize orbT f n = U at *
  have Hz0 : Hid (List.replicate n (0 : Nat) = obL U n 0 0) := Lib.hid (by
    apply List.ext_getElem
    · simp [obL]
    · intro x h1 h2; simp [obL, obM, obI])
  go_enter Tryd.func9, Tryd.ntmps9
  go_wp2_with fail
  refine (awake_any w).mono ?_
  rintro e w1 ⟨rfl, hb⟩
  have H1 := Lib.hid (((HH.start w).call hb).alloc #[.slice (some ⟨b, o, none⟩) n c] 25 rfl rfl)
  clear hb
  obtain ⟨v1, hv⟩ : ∃ x, x = w1.alloc (.cells #[.slice (some ⟨b, o, none⟩) n c] 25) := ⟨_, rfl⟩
  go_wp2_with fail
  rw [← hv]
  rw [← hv] at H1
  generalize w1.heap.size = q1 at *
  clear hv
  refine (HS.out v1 H1.out.below).mono ?_
  rintro e w2 ⟨rfl, hb⟩
  have H2 := Lib.hid (H1.out.call hb)
  clear hb H1 HS
  have hc0 := H2.out.cell (k := 0) (i := 0) rfl rfl
  go_wp2_with fail
  clear hc0
  refine (HV.out w2 H2.out.below).mono ?_
  rintro e w3 ⟨rfl, hb⟩
  have H3 := Lib.hid ((H2.out.call hb).alloc (Array.replicate n (.int .i64 0)) 3 rfl (vs := ints (natI (obL U n 0 0))) (by rw [replicate_ints, ← Hz0.out, natI, List.map_replicate]; rfl))
  obtain ⟨v3, hv3⟩ : ∃ x, x = w3.alloc (.cells (Array.replicate n (.int .i64 0)) 3) := ⟨_, rfl⟩
  have hc0 := H3.out.cell (k := 0) (i := 0) rfl rfl
  clear hb H2 HV Hz0
  go_wp2_with fail
  rw [← hv3]
  rw [← hv3] at H3
  have hob : w3.heap.size < v3.heap.size := H3.out.lt (List.mem_cons_of_mem _ List.mem_cons_self)
  generalize w3.heap.size = ob at *
  clear hv3 hc0 hmk
  refine (HO.out v3 H3.out.below).mono ?_
  rintro e w4 ⟨B, G, rfl, hbt, hb⟩
  have H4 := Lib.hid (H3.out.call hb)
  have Hbt := Lib.hid hbt
  clear hbt hb H3 HO f1 f2
  generalize v3.heap.size = q3 at *
  go_wp2_with fail
  go_loopg [40] U.length (fun g v wr => ∃ i : Nat, i ≤ U.length ∧ g = U.length - i ∧ v = .int .i64 i ∧ OwnRows wr q3 B G U ∧ HH w wr [(q1, rowO 25 [.slice (some ⟨b, o, none⟩) n c]), (ob, rowO 3 (ints (natI (obL U n i 0))))] [])
  case atStart => exact ⟨0, Nat.zero_le _, rfl, rfl, Hbt.out, H4.out⟩
  case round =>
    obtain ⟨i, hi, rfl, rfl, hbt, hh⟩ := hrel
    replace Hbt := Lib.hid hbt
    have Hh := Lib.hid hh
    clear hbt hh H4
    by_cases hiU : i < U.length
    · obtain ⟨b1, o1, hB, _, _, hrow⟩ := Hbt.out.open (by omega)
      obtain ⟨a', c', hci, hro⟩ := hrow i _ (getD_some hiU)
      have Hro := Lib.hid hro
      have hli := HUr.out i hiU
      have HE : Hid (∀ j, j < (U.getD i []).length → ∃ v : Nat, v < n ∧ nth (U.getD i []) j = (v : Int)) := Lib.hid fun j hj => HU.out i hiU j hj
      have HEa : Hid (obL U n i (U.getD i []).length = obL U n (i + 1) 0) := Lib.hid (obL_all U n i)
      have HEs : Hid (∀ j v, j < (U.getD i []).length → nth (U.getD i []) j = ((v : Nat) : Int) → (obL U n i j).set v i = obL U n i (j + 1)) := Lib.hid fun j v hj hv => obL_set hj hv
      subst hB
      clear hrow hro
      generalize U.getD i [] = row at *
      go_wp2_with fail
      clear hci
      go_loopg [47] row.length (fun g v wx => ∃ j : Nat, j ≤ row.length ∧ g = row.length - j ∧ v = .int .i64 j ∧ OwnRows wx q3 (some ⟨b1, o1, none⟩) G U ∧ Own wx q3 3 a' c' (ints row) ∧ HH w wx [(q1, rowO 25 [.slice (some ⟨b, o, none⟩) n c]), (ob, rowO 3 (ints (natI (obL U n i j))))] [])
      case atStart => exact ⟨0, Nat.zero_le _, rfl, rfl, Hbt.out, Hro.out, Hh.out⟩
      case round =>
        obtain ⟨j, hj, rfl, rfl, hbt, hro, hh⟩ := hrel
        replace Hbt := Lib.hid hbt
        replace Hro := Lib.hid hro
        replace Hh := Lib.hid hh
        clear hbt hro hh
        by_cases hjl : j < row.length
        · obtain ⟨b2, o2, rfl, _, hcR⟩ := Hro.out.ints.open (by omega)
          have hcx := hcR j hjl
          clear hcR
          obtain ⟨v, hvn, hv⟩ := HE.out j hjl
          have Hset := Lib.hid (HEs.out j v hjl hv)
          rw [hv] at hcx
          have e1 : decide ((v : Int) < 0) = false := decide_eq_false (by omega)
          have e2 : decide ((n : Int) ≤ (v : Int)) = false := decide_eq_false (by omega)
          have e3 : decide (n ≤ v) = false := decide_eq_false (by omega)
          have hcv := Hh.out.int (k := 1) rfl v (by rw [List.length_map, obL_len]; exact hvn)
          have hfv := Hh.out.frozen (k := 1) rfl v
          have HN := Lib.hid (Hh.out.setInt (k := 1) rfl v (i : Int))
          rw [natI_set, Hset.out] at HN
          have hbk : ∀ k, q3 ≤ k → (wr.setCell ⟨ob, v, none⟩ (.int .i64 (i : Int))).heap[k]? = wr.heap[k]? := fun k hk => Below.heap_setCell _ ⟨ob, v, none⟩ _ k (fun e => by have e : k = ob := e; omega)
          have Hbt2 := Lib.hid (Hbt.out.keptB hbk)
          have Hro2 := Lib.hid (Hro.out.kept fun x hx => hbk _ (Hro.out.lt hx).1)
          clear hv hbk
          go_wp2_with fail
          go_roundg (row.length - (j + 1))
          case measure => omega
          case rel => exact ⟨j + 1, by omega, rfl, by go_num, Hbt2.out, Hro2.out, HN.out⟩
        · obtain rfl : j = row.length := by omega
          rw [HEa.out] at Hh
          go_wp2_with fail
          go_roundg (U.length - (i + 1))
          case measure => omega
          case rel => exact ⟨i + 1, by omega, rfl, by go_num, Hbt.out, Hh.out⟩
    · obtain rfl : i = U.length := by omega
      have HOl : Hid (∀ x, x < n → lb (obL U n U.length 0) (f x z) = lb (obL U n U.length 0) x) := Lib.hid fun x hx => by
        rw [obL_lb (Hlt.out x z hx hzn), obL_lb hx, obM_zero, obM_zero]; exact HK.out x hx
      have HOn : Hid ((natI (obL U n U.length 0)).length = n) := Lib.hid (by rw [List.length_map, obL_len])
      clear HK HU HUr Hbt
      generalize obL U n U.length 0 = OL at *
      go_wp2_with fail
      clear hi hUl
      go_loopg [65] n (fun g v wr => ∃ x : Nat, x ≤ n ∧ g = n - x ∧ v = .int .i64 x ∧ HH w wr [(q1, rowO 25 [.slice (some ⟨b, o, none⟩) n c]), (ob, rowO 3 (ints (natI OL)))] [])
      case atStart => exact ⟨0, Nat.zero_le _, rfl, rfl, Hh.out⟩
      case round =>
        obtain ⟨x, hx, rfl, rfl, hh⟩ := hrel
        replace Hh := Lib.hid hh
        clear hh
        by_cases hxn : x < n
        · have h1 := (HG.out.later Hh.out.below).row x hxn
          have h2 := (HG.out.later Hh.out.below).el x z hxn hzn
          have hfn := Hlt.out x z hxn hzn
          have hca := Hh.out.int (k := 1) rfl x (by rw [HOn.out]; exact hxn)
          have hcb := Hh.out.int (k := 1) rfl (f x z) (by rw [HOn.out]; exact hfn)
          rw [nth_natI] at hca hcb
          rw [HOl.out x hxn] at hcb
          generalize lb OL x = la at *
          generalize f x z = t at h2 hfn hcb
          go_wp2_with fail
          go_quiet (fail)
          go_wp2_with fail
          clear h1 h2 hca hcb hfn
          go_loopg [84] n (fun g v wr => ∃ y : Nat, y ≤ n ∧ g = n - y ∧ v = .int .i64 y ∧ HH w wr [(q1, rowO 25 [.slice (some ⟨b, o, none⟩) n c]), (ob, rowO 3 (ints (natI OL)))] [])
          case atStart => exact ⟨0, Nat.zero_le _, rfl, rfl, Hh.out.drewN _⟩
          case round =>
            obtain ⟨y, hy, rfl, rfl, hh⟩ := hrel
            replace Hh := Lib.hid hh
            clear hh
            by_cases hyn : y < n
            · obtain ⟨a, han, hax⟩ := Hon.out x hxn
              obtain ⟨d, hdn, hdy⟩ := Hon.out y hyn
              have HB0 := Lib.hid Hh.out.below
              have l1 := Hlt.out x y hxn hyn
              have l2 := Hlt.out x z hxn hzn
              have l3 := Hlt.out y z hyn hzn
              have l4 := Hlt.out a d han hdn
              have hs1 := Hds.out x hxn y hyn z hzn
              have hs2 := Hds.out a han d hdn z hzn
              rw [hax, hdy] at hs2
              have HI1 : Hid (∀ W', Below wr.heap.size wr W' → Calls Tryd.prog 18 #[.agg #[.slice (some ⟨b, o, none⟩) n c], .int .i64 (x : Int), .int .i64 (z : Int)] W' fun e w' => e = .returned (.int .i64 (a : Int)) ∧ Below W'.heap.size W' w') := Lib.hid fun W' h => HI.out x z a W' (below_of HB0.out h HB0.out.size) hxn hzn han hax
              have HI2 : Hid (∀ W', Below wr.heap.size wr W' → Calls Tryd.prog 18 #[.agg #[.slice (some ⟨b, o, none⟩) n c], .int .i64 (y : Int), .int .i64 (z : Int)] W' fun e w' => e = .returned (.int .i64 (d : Int)) ∧ Below W'.heap.size W' w') := Lib.hid fun W' h => HI.out y z d W' (below_of HB0.out h HB0.out.size) hyn hzn hdn hdy
              have HI3 : Hid (∀ W', Below wr.heap.size wr W' → Calls Tryd.prog 18 #[.agg #[.slice (some ⟨b, o, none⟩) n c], .int .i64 (f x y : Nat), .int .i64 (z : Int)] W' fun e w' => e = .returned (.int .i64 (f a d : Nat)) ∧ Below W'.heap.size W' w') := Lib.hid fun W' h => HI.out (f x y) z (f a d) W' (below_of HB0.out h HB0.out.size) l1 hzn l4 hs2
              have HG2 : Hid (∀ W', Below wr.heap.size wr W' → Grd W' b o P Q C n f) := Lib.hid fun W' h => (HG.out.later HB0.out).later h
              have HKS : Hid (∀ W', Below wr.heap.size wr W' → W'.cell? ⟨q1, 0, none⟩ = some (.slice (some ⟨b, o, none⟩) n c) ∧ W'.cell? ⟨b, o + x, none⟩ = some (.slice (some ⟨P x, Q x, none⟩) n (C x)) ∧ W'.cell? ⟨b, o + y, none⟩ = some (.slice (some ⟨P y, Q y, none⟩) n (C y)) ∧ W'.cell? ⟨b, o + f x y, none⟩ = some (.slice (some ⟨P (f x y), Q (f x y), none⟩) n (C (f x y))) ∧ W'.cell? ⟨b, o + f x z, none⟩ = some (.slice (some ⟨P (f x z), Q (f x z), none⟩) n (C (f x z))) ∧ W'.cell? ⟨b, o + a, none⟩ = some (.slice (some ⟨P a, Q a, none⟩) n (C a)) ∧ W'.cell? ⟨P x, Q x + y, none⟩ = some (.int .i64 ((f x y : Nat) : Int)) ∧ W'.cell? ⟨P x, Q x + z, none⟩ = some (.int .i64 ((f x z : Nat) : Int)) ∧ W'.cell? ⟨P y, Q y + z, none⟩ = some (.int .i64 ((f y z : Nat) : Int)) ∧ W'.cell? ⟨P (f x y), Q (f x y) + z, none⟩ = some (.int .i64 ((f (f x y) z : Nat) : Int)) ∧ W'.cell? ⟨P (f x z), Q (f x z) + f y z, none⟩ = some (.int .i64 ((f (f x y) z : Nat) : Int)) ∧ W'.cell? ⟨P a, Q a + d, none⟩ = some (.int .i64 ((f a d : Nat) : Int))) := Lib.hid fun W' h =>
                have g := HG2.out W' h
                ⟨(Hh.out.call h).cell (k := 0) (i := 0) rfl rfl, g.row x hxn, g.row y hyn, g.row _ l1, g.row _ l2, g.row a han, g.el x y hxn hyn, g.el x z hxn hzn, g.el y z hyn hzn, g.el _ z l1 hzn, hs1 ▸ g.el _ _ l2 l3, g.el a d han hdn⟩
              have Hr := Lib.hid ((Below.refl wr.heap.size wr).drew)
              clear hs1 hs2 hax hdy HG2
              have e1 : decide ((a : Int) < 0) = false := decide_eq_false (by omega)
              have e2 : decide ((d : Int) < 0) = false := decide_eq_false (by omega)
              have e3 : decide ((n : Int) ≤ (a : Int)) = false := decide_eq_false (by omega)
              have e4 : decide ((n : Int) ≤ (d : Int)) = false := decide_eq_false (by omega)
              have e5 : decide (n ≤ a) = false := decide_eq_false (by omega)
              have e6 : decide (n ≤ d) = false := decide_eq_false (by omega)
              generalize f (f x y) z = s at *
              generalize f x y = p1 at *
              generalize f x z = p2 at *
              generalize f y z = p3 at *
              generalize f a d = p4 at *
              go_wp2_with fail
              go_region_held3 (fun W' => W'.cell? ⟨q1, 0, none⟩ = some (.slice (some ⟨b, o, none⟩) n c))
                (first
                  | with_reducible exact (HKS.out _ Hr.out).1)
                (first
                  | ((with_reducible refine (HI1.out _ Hr.out).mono ?_); rintro e w5 ⟨rfl, hb⟩; replace Hr := Lib.hid (below_of Hr.out hb Hr.out.size); clear hb)
                  | ((with_reducible refine (HI2.out _ Hr.out).mono ?_); rintro e w5 ⟨rfl, hb⟩; replace Hr := Lib.hid (below_of Hr.out hb Hr.out.size); clear hb))
              all_goals
                go_wp2_with fail
                replace Hr := Lib.hid Hr.out.drew
                dsimp only [List.append, List.append_eq, List.cons_append, List.nil_append]
                go_region_held3 (fun W' => W'.cell? ⟨q1, 0, none⟩ = some (.slice (some ⟨b, o, none⟩) n c) ∧ W'.cell? ⟨b, o + x, none⟩ = some (.slice (some ⟨P x, Q x, none⟩) n (C x)) ∧ W'.cell? ⟨b, o + y, none⟩ = some (.slice (some ⟨P y, Q y, none⟩) n (C y)) ∧ W'.cell? ⟨b, o + p1, none⟩ = some (.slice (some ⟨P p1, Q p1, none⟩) n (C p1)) ∧ W'.cell? ⟨b, o + p2, none⟩ = some (.slice (some ⟨P p2, Q p2, none⟩) n (C p2)) ∧ W'.cell? ⟨b, o + a, none⟩ = some (.slice (some ⟨P a, Q a, none⟩) n (C a)) ∧ W'.cell? ⟨P x, Q x + y, none⟩ = some (.int .i64 ((p1 : Nat) : Int)) ∧ W'.cell? ⟨P x, Q x + z, none⟩ = some (.int .i64 ((p2 : Nat) : Int)) ∧ W'.cell? ⟨P y, Q y + z, none⟩ = some (.int .i64 ((p3 : Nat) : Int)) ∧ W'.cell? ⟨P p1, Q p1 + z, none⟩ = some (.int .i64 ((s : Nat) : Int)) ∧ W'.cell? ⟨P p2, Q p2 + p3, none⟩ = some (.int .i64 ((s : Nat) : Int)) ∧ W'.cell? ⟨P a, Q a + d, none⟩ = some (.int .i64 ((p4 : Nat) : Int)))
                  (first
                    | with_reducible exact HKS.out _ Hr.out)
                  (first
                    | ((with_reducible refine (HI3.out _ Hr.out).mono ?_); rintro e w6 ⟨rfl, hb⟩; replace Hr := Lib.hid (below_of Hr.out hb Hr.out.size); clear hb))
                go_wp2_with fail
                go_roundg (n - (y + 1))
                case measure => omega
                case rel => exact ⟨y + 1, by omega, rfl, by go_num, Hh.out.call Hr.out⟩
            · obtain rfl : y = n := by omega
              go_wp2_with fail
              go_roundg (y - (x + 1))
              case measure => omega
              case rel => exact ⟨x + 1, by omega, rfl, by go_num, Hh.out⟩
        · obtain rfl : x = n := by omega
          go_wp2_with fail
          go_ret
          exact ⟨rfl, Hh.out.below⟩
theorem laut_any (T : List (List Int)) (a : Option Addr) (c : Nat) (kk : Int) (w : World) (hT : TabAt w a T) (hk : (Lit.int .u8 kk).wf = true) :
    Calls Tryd.prog 9 #[.slice a T.length c, .int .u8 kk] w fun e w' => e = .returned (.bool true) ∧ Below w.heap.size w w' := by
  by_cases hs : Sml T
  · by_cases hq : Qnd T
    · obtain ⟨b, o, P, Q, C, rfl, hG⟩ := grd_of hT hq.1.1 hq.2.1
      obtain ⟨h0, h1⟩ := wf_u8 hk
      obtain ⟨m, rfl⟩ : ∃ m : Nat, kk = (m : Int) := ⟨kk.toNat, by omega⟩
      exact laut_y T T.length b o P Q C c m (m % T.length) w rfl hs hq hG (by omega) rfl
    · exact laut_n T a c kk w hs hq hT
  · exact laut_s T a c kk w hs hT
end Go.Proofs.YtlgiponfcmeiiaaDoor
