/- The main way of the law QuandleRenames. -/
import Derived.Test.YtlgiponfcmeiiaaDoorRnmR
import Derived.Test.YtlgiponfcmeiiaaDoorLRnm
import Derived.Test.YtlgiponfcmeiiaaDoorOrbW
import Derived.Deep.RegionHeld3
namespace Go.Proofs.YtlgiponfcmeiiaaDoor
open Go Go.RowKit
section
variable {w : World} {ops : Array Oper} {o : Oper} {a : Act}
/-- An append of one row at a step of a region that draws its order. -/
theorem step_append_row {K : Act → World → Prop} {Q : Exit → Act → World → Prop} {E : Prop} (hgd : o.guard = none) (s x : Operand) (ho : o.op = .call { callee := .builtin .append, args := #[s, x], argTypes := #[23, 23] })
    (B : Nat) (i : TypeInfo) (h2 : Tryd.prog.info? 36 = some i) (h3 : i.zero = some (.slice none 0 0)) (h4 : i.size = 1) (h5 : i.bytes = 24) (A : Option Addr) (n c : Nat) (vs : List Value) (hs : a.eval s = .slice A n c) (hn : vs.length = n) (hown : Own w B 36 A c vs) (ad : Addr) (m' : Nat) (u : Value) (hx : a.eval x = .slice (some ad) 1 m') (hu : w.cell? ad = some u) (hu1 : u.oneCell' = true)
    (hn1 : n ≤ 1000000) (hB : B ≤ w.heap.size) (h : ∀ A' c' w', Own w' B 36 A' c' (vs ++ [u]) → Turned w w' A → (∀ x, A' = some x → (w.heap.size ≤ x.block ∨ ∃ y, A = some y ∧ x = y)) → K (a.put o.dst (.slice A' (n + 1) c')) w') :
    if Region.wanted o (yielded ops a.tmps) = true then Oper.wp Tryd.prog o a w K Q else E := by
  have hw : Region.wanted o (yielded ops a.tmps) = true := by simp [Region.wanted, hgd]
  rw [if_pos hw]
  subst hn
  obtain ⟨a', c', w', hrun, r1, r2, r3⟩ := run_append_one (P := Tryd.prog) w B 23 o.type 36 i (.slice none 0 0) 24 Tryd.underlying23 h2 h3 h4 h5 rfl A c vs hown ad m' u hu hu1 (by omega) (by omega) hB
  unfold Oper.wp
  simp [execOp, ho, resolve, invoke, builtin, hs, hx, hrun, Result.andThen]
  exact h a' c' w' r1 r2 r3
end
set_option maxRecDepth 100000 in
set_option maxHeartbeats 4000000 in
theorem lren_y1 (T : List (List Int)) (n b o : Nat) (P Q C : Nat → Nat) (c t m s k : Nat) (w : World) (hn : T.length = n) (hs : Sml T) (hq : Qnd T) (hG : Grd w b o P Q C n (tbn T)) (ht : t ≤ 255) (hm : m ≤ 255) (hms : m % n = s) (hk : 1 + s = k) (hg : Nat.gcd (((k : Nat) : Int) % (n : Int)).toNat n = 1) :
    Calls Tryd.prog 6 #[.slice (some ⟨b, o, none⟩) n c, .int .u8 (t : Int), .int .u8 (m : Int)] w fun e w' => e = .returned (.bool true) ∧ Below w.heap.size w w' := by
  have hsh := hq.2.1
  have hl := hq.1
  rw [hn] at hsh hl
  have hT := grd_tab hG hsh
  have HS : Hid (∀ W', Below w.heap.size w W' → Calls Tryd.prog 17 #[.slice (some ⟨b, o, none⟩) n c] W' fun e w' => e = .returned (.int .i64 1) ∧ Below W'.heap.size W' w') := Lib.hid fun W' h => by rw [← hn]; exact small_yes T _ c W' (hT.later h) hs
  have HV : Hid (∀ W', Below w.heap.size w W' → Calls Tryd.prog 15 #[.agg #[.slice (some ⟨b, o, none⟩) n c]] W' fun e w' => e = .returned (.bool true) ∧ Below W'.heap.size W' w') := Lib.hid fun W' h => by
    have g := qvalid_any T (some ⟨b, o, none⟩) c W' (by have := hs.1; omega) (fun l hl => by have := hs.rows l hl; omega) (hT.later h)
    rw [okB_yes hq, hn] at g
    exact g
  have h1 := hl.1
  have h30 := hl.2
  have HC : Hid (∀ W', Calls Tryd.prog 16 #[.int .i64 (n : Int), .int .i64 (k : Int)] W' fun e w' => e = .returned (.bool true) ∧ Below W'.heap.size W' w') := Lib.hid fun W' => by
    have h := cop_any n (k : Int) W' h1 h30
    rw [decide_eq_true (by omega)] at h
    exact h
  have hn0 : (n : Int) ≠ 0 := by omega
  have hn00 : n ≠ 0 := by omega
  have f1 : (m : Int) % (n : Int) = (s : Int) := by rw [← hms]; exact (Int.natCast_emod _ _).symm
  have f2 : (m : Int).tmod (n : Int) = (s : Int) := by rw [Int.tmod_eq_emod_of_nonneg (by omega)]; exact f1
  have f3 : 1 + (s : Int) = (k : Int) := by omega
  have hsn : s < n := by rw [← hms]; exact Nat.mod_lt _ (by omega)
  have hk30 : k ≤ 30 := by omega
  have HGcd : Hid (Nat.gcd k n = 1) := Lib.hid (by rw [← hg, show (((k : Nat) : Int) % (n : Int)).toNat = k % n by omega, Nat.gcd_comm]; exact (Nat.gcd_rec n k).symm ▸ rfl)
  have HO : Hid (∀ W', Below w.heap.size w W' → Calls Tryd.prog 20 #[.agg #[.slice (some ⟨b, o, none⟩) n c]] W' fun e w' => ∃ A E, e = .returned (.slice A (orbT (tbn T) n).length E) ∧ OwnRows w' W'.heap.size A E (orbT (tbn T) n) ∧ Below W'.heap.size W' w') := Lib.hid fun W' h => orb_new T n _ c W' hn (hT.later h) hq
  have Hlt : Hid (∀ x y, x < n → y < n → tbn T x y < n) := Lib.hid fun x y hx hy => (tb_tbn hsh hx hy).2
  have Hdm : Hid (IdmN (tbn T) n) := Lib.hid ((idm_iff hsh).1 (by rw [← hn]; exact hq.2.2.1))
  have Hiv : Hid (IvtN (tbn T) n) := Lib.hid ((ivt_iff hsh).1 (by rw [← hn]; exact hq.2.2.2.1))
  have Hds : Hid (DstN (tbn T) n) := Lib.hid ((dst_iff hsh).1 (by rw [← hn]; exact hq.2.2.2.2))
  have HG := Lib.hid hG
  have Hnl : Hid (∀ x, x < n → nmV n k t x < n) := Lib.hid fun x _ => nmV_lt n k t x (by omega)
  have Hni : Hid (∀ x y, x < n → y < n → nmV n k t x = nmV n k t y → x = y) := Lib.hid fun x y hx hy e => nmV_inj n k t x y HGcd.out hx hy e
  have HN : Hid (∀ (bk bb bn x : Nat) (W : World), x < n → W.cell? ⟨bk, 0, none⟩ = some (.int .i64 (k : Int)) → W.cell? ⟨bb, 0, none⟩ = some (.int .u8 (t : Int)) → W.cell? ⟨bn, 0, none⟩ = some (.int .i64 (n : Int)) →
    Calls Tryd.prog 22 #[.int .i64 (x : Int), .pointer (some ⟨bk, 0, none⟩), .pointer (some ⟨bb, 0, none⟩), .pointer (some ⟨bn, 0, none⟩)] W fun e w' => e = .returned (.int .i64 (nmV n k t x : Nat)) ∧ w' = W) := Lib.hid fun bk bb bn x W hx g1 g2 g3 => name_any bk bb bn n k t x W h1 hk30 ht (by omega) g1 g2 g3
  generalize nmV n k t = nm at *
  generalize tbn T = f at *
  have hmk := run_mk1 (T := 36) (z := .int .i64 0) (bytes := 8) Tryd.underlying36 Tryd.info3 rfl n n (Nat.le_refl _) (by omega) (by omega)
  obtain ⟨j0, hj0, hy0, hy1, hy2⟩ := info_parts Tryd.info36
  clear hn hs hq hT hsh hl hg hms hk HGcd hG
  have H0 := Lib.hid ((HH.start w).alloc #[.int .u8 (t : Int)] 5 rfl rfl)
  obtain ⟨v0, hv⟩ : ∃ x, x = w.alloc (.cells #[.int .u8 (t : Int)] 5) := ⟨_, rfl⟩
  rw [← hv] at H0
  go_enter Tryd.func6, Tryd.ntmps6
  go_wp2_with fail
  rw [← hv]
  clear hv
  refine (awake_any v0).mono ?_
  rintro e w1 ⟨rfl, hb⟩
  have H1 := Lib.hid ((H0.out.call hb).alloc #[.slice (some ⟨b, o, none⟩) n c] 25 rfl rfl)
  clear hb H0
  obtain ⟨v1, hv⟩ : ∃ x, x = w1.alloc (.cells #[.slice (some ⟨b, o, none⟩) n c] 25) := ⟨_, rfl⟩
  go_wp2_with fail
  rw [← hv]
  rw [← hv] at H1
  generalize w1.heap.size = q1 at *
  clear hv
  refine (HS.out v1 H1.out.below).mono ?_
  rintro e w2 ⟨rfl, hb⟩
  have H2 := Lib.hid (H1.out.call hb)
  clear hb H1 HS
  have hc1 := H2.out.cell (k := 1) (i := 0) rfl rfl
  go_wp2_with fail
  clear hc1
  refine (HV.out w2 H2.out.below).mono ?_
  rintro e w3 ⟨rfl, hb⟩
  have H3 := Lib.hid (((H2.out.call hb).alloc #[.int .i64 (n : Int)] 3 rfl rfl).alloc #[.int .i64 (k : Int)] 3 rfl rfl)
  clear hb H2 HV
  have hc3 := ((H3.out).cell (k := 2) (i := 0) rfl rfl)
  go_wp2_with fail
  clear hc3 f1 f2 f3
  rw [show (w3.alloc (Obj.cells #[Value.int IntKind.i64 ↑n] 3)).heap.size = w3.heap.size + 1 by simp] at H3
  generalize w3.heap.size = qn at *
  refine (HC.out _).mono ?_
  rintro e w4 ⟨rfl, hb⟩
  have H4 := Lib.hid (H3.out.call hb)
  clear hb H3 HC
  have H5 := Lib.hid ((H4.out.alloc #[.slice none 0 0] 25 rfl rfl).addNil 36)
  have hc5 := H5.out.cell (k := 2) (i := 0) rfl rfl
  go_wp2_with fail
  generalize w4.heap.size = qr at *
  clear hc5
  go_loopg [49] n (fun g v wr => ∃ (i : Nat) (A : Option Addr) (E : Nat) (bl : List Nat), i ≤ n ∧ g = n - i ∧ v = .int .i64 i ∧ bl.length = i ∧ HH w wr [(w.heap.size, rowO 5 [.int .u8 (t : Int)]), (q1, rowO 25 [.slice (some ⟨b, o, none⟩) n c]), (qn, rowO 3 [.int .i64 (n : Int)]), (qn + 1, rowO 3 [.int .i64 (k : Int)]), (qr, rowO 25 [.slice A i E])] (⟨A, E, 36, rwV bl n i⟩ :: rws bl n (fun _ => List.replicate n 0) i))
  case atStart => exact ⟨0, none, 0, [], Nat.zero_le _, rfl, rfl, rfl, H5.out⟩
  case round =>
    obtain ⟨i, A, E, bl, hi, rfl, rfl, hbl, hh⟩ := hrel
    have Hh := Lib.hid hh
    have Hbl := Lib.hid hbl
    clear hh hbl H5 H4
    by_cases hin : i < n
    · have Hm := Lib.hid (Hh.out.addSl ((Below.refl _ _).alloc (Nat.le_refl _) (.cells (Array.replicate n (.int .i64 0)) 3)) (a := some ⟨wr.heap.size, 0, none⟩) (c := n) (E := 3) (vs := ints (List.replicate n 0)) (by have h := Own.made (w := wr) (B := wr.heap.size) (E := 3) (Array.replicate n (.int .i64 0)) (Nat.le_refl _); rw [Array.size_replicate, replicate_ints] at h; exact h))
      have Ha := Lib.hid (Hm.out.call ((Below.refl _ _).alloc (Nat.le_refl _) (.cells #[.slice (some ⟨wr.heap.size, 0, none⟩) n n] 36))).drew
      have c1 := Hh.out.cell (k := 4) (i := 0) rfl rfl
      have c2 := Hh.out.cell (k := 2) (i := 0) rfl rfl
      have c3 := Hm.out.cell (k := 4) (i := 0) rfl rfl
      have c4 := Hm.out.cell (k := 2) (i := 0) rfl rfl
      have c5 := Ha.out.cell (k := 4) (i := 0) rfl rfl
      have c6 := Ha.out.cell (k := 2) (i := 0) rfl rfl
      have Hn0 : Hid ((rwV bl n i).length = i) := Lib.hid (rwV_len bl n i)
      have Hc0 : Hid (((wr.alloc (.cells (Array.replicate n (.int .i64 0)) 3)).alloc (.cells #[.slice (some ⟨wr.heap.size, 0, none⟩) n n] 36)).drew.cell? ⟨wr.heap.size + 1, 0, none⟩ = some (.slice (some ⟨wr.heap.size, 0, none⟩) n n)) := Lib.hid (by
        have e : (wr.alloc (.cells (Array.replicate n (.int .i64 0)) 3)).heap.size = wr.heap.size + 1 := by simp
        rw [← e]; exact ((Row.new _ #[.slice (some ⟨wr.heap.size, 0, none⟩) n n] 36).cell 0))
      have Hl1 := Lib.hid Ha.out.below.size
      go_upto_region 14 with fail
      go_region_law ((refine step_append_row rfl (.tmp 52) (.tmp 55) rfl w.heap.size j0 hj0 hy0 hy1 hy2 A i E (rwV bl n i) rfl Hn0.out (Ha.out.sl (k := 0) rfl) ⟨wr.heap.size + 1, 0, none⟩ 1 (.slice (some ⟨wr.heap.size, 0, none⟩) n n) rfl Hc0.out rfl (by omega) Hl1.out ?_); intro A3 e3 w5 hO2 hT2 hA2; have H6 := Ha.out.grow (k := 0) rfl hO2 hT2 hA2; have hd := H6.cell (k := 4) (i := 0) rfl rfl; have hf := H6.frozen (k := 4) rfl 0; have H7 := Lib.hid (H6.set (k := 4) rfl 0 (.slice A3 (i + 1) e3)); clear H6 hO2 hT2 hA2)
      all_goals
        clear hd hf c1 c2 c3 c4 c5 c6
        go_wp2_with fail
        go_roundg (n - (i + 1))
        case measure => omega
        case rel =>
          refine ⟨i + 1, A3, e3, bl ++ [wr.heap.size], by omega, rfl, by go_num, by rw [List.length_append, Hbl.out]; rfl, ?_⟩
          have h := H7.out
          rw [← rwV_snoc _ Hbl.out, ← rws_snoc _ Hbl.out]
          exact h
    · obtain rfl : n = i := by omega
      obtain ⟨bA, oA, rfl, hBA, _, _, _⟩ := (Hh.out.sl (k := 0) rfl).open (by show 0 < (rwV bl n n).length; rw [rwV_len]; omega)
      have c1 := Hh.out.cell (k := 2) (i := 0) rfl rfl
      clear hin hi hmk hj0 hy0 hy1 hy2
      go_wp2_with fail
      clear c1
      go_loopg [60] n (fun g v wr => ∃ (x : Nat) (Z : Nat → List Int), x ≤ n ∧ g = n - x ∧ v = .int .i64 x ∧ Wrt n f nm Z x 0 ∧ HH w wr [(w.heap.size, rowO 5 [.int .u8 (t : Int)]), (q1, rowO 25 [.slice (some ⟨b, o, none⟩) n c]), (qn, rowO 3 [.int .i64 (n : Int)]), (qn + 1, rowO 3 [.int .i64 (k : Int)]), (qr, rowO 25 [.slice (some ⟨bA, oA, none⟩) n E])] (⟨some ⟨bA, oA, none⟩, E, 36, rwV bl n n⟩ :: rws bl n Z n))
      case atStart => exact ⟨0, _, Nat.zero_le _, rfl, rfl, Wrt.zero n f nm, Hh.out⟩
      case round =>
        obtain ⟨x, Z, hx, rfl, rfl, hz, hh⟩ := hrel
        replace Hh := Lib.hid hh
        have Hz := Lib.hid hz
        clear hh hz
        by_cases hxn : x < n
        · have c1 := Hh.out.cell (k := 2) (i := 0) rfl rfl
          go_wp2_with fail
          clear c1
          go_loopg [64] n (fun g v wr => ∃ (y : Nat) (Z : Nat → List Int), y ≤ n ∧ g = n - y ∧ v = .int .i64 y ∧ Wrt n f nm Z x y ∧ HH w wr [(w.heap.size, rowO 5 [.int .u8 (t : Int)]), (q1, rowO 25 [.slice (some ⟨b, o, none⟩) n c]), (qn, rowO 3 [.int .i64 (n : Int)]), (qn + 1, rowO 3 [.int .i64 (k : Int)]), (qr, rowO 25 [.slice (some ⟨bA, oA, none⟩) n E])] (⟨some ⟨bA, oA, none⟩, E, 36, rwV bl n n⟩ :: rws bl n Z n))
          case atStart => exact ⟨0, Z, Nat.zero_le _, rfl, rfl, Hz.out, Hh.out⟩
          case round =>
            obtain ⟨y, Z, hy, rfl, rfl, hz, hh⟩ := hrel
            replace Hh := Lib.hid hh
            replace Hz := Lib.hid hz
            clear hh hz
            by_cases hyn : y < n
            · have l1 := Hnl.out x hxn
              have l2 := Hnl.out y hyn
              have l3 := Hlt.out x y hxn hyn
              have l4 := Hnl.out _ l3
              have Hz2 := Lib.hid (Hz.out.step hxn hyn Hnl.out Hni.out)
              have Hd := Lib.hid Hh.out.drew
              have hsl := Hh.out.slSet (k := nm x + 1) (rws_nth l1) (nm y) (by rw [ints_length, Hz.out.1 _ l1]; exact l2) (.int .i64 (nm (f x y) : Nat))
              have hrw := Hh.out.sl (k := nm x + 1) (rws_nth l1)
              obtain ⟨bR, oR, hRe, _, _, hRc, hRf⟩ := hrw.open (by show 0 < (ints (Z (nm x))).length; rw [ints_length, Hz.out.1 _ l1]; omega)
              simp only [Option.some.injEq, Addr.mk.injEq, and_true] at hRe
              obtain ⟨hRe, rfl⟩ := hRe
              have hcR := hRc (nm y) _ (ints_get _ _ (by rw [Hz.out.1 _ l1]; exact l2))
              have hfR := hRf (nm y)
              rw [Nat.zero_add] at hcR hsl
              rw [ints_set] at hsl
              replace hsl : HH w (wr.setCell ⟨bl.getD (nm x) 0, nm y, none⟩ (.int .i64 (nm (f x y) : Nat))) [(w.heap.size, rowO 5 [.int .u8 (t : Int)]), (q1, rowO 25 [.slice (some ⟨b, o, none⟩) n c]), (qn, rowO 3 [.int .i64 (n : Int)]), (qn + 1, rowO 3 [.int .i64 (k : Int)]), (qr, rowO 25 [.slice (some ⟨bA, oA, none⟩) n E])] (⟨some ⟨bA, oA, none⟩, E, 36, rwV bl n n⟩ :: rws bl n (upd Z (nm x) ((Z (nm x)).set (nm y) ((nm (f x y) : Nat) : Int))) n) := by
                have e := rws_set (bl := bl) (n := n) (k := n) (Z := Z) ((Z (nm x)).set (nm y) ((nm (f x y) : Nat) : Int)) l1
                rw [← e]
                exact hsl
              have Hsl := Lib.hid hsl.drew
              rw [← hRe] at hcR hfR
              clear hsl hrw hRc hRf hRe
              have HKS : Hid (∀ (W' : World) (Z' : Nat → List Int), HH w W' [(w.heap.size, rowO 5 [.int .u8 (t : Int)]), (q1, rowO 25 [.slice (some ⟨b, o, none⟩) n c]), (qn, rowO 3 [.int .i64 (n : Int)]), (qn + 1, rowO 3 [.int .i64 (k : Int)]), (qr, rowO 25 [.slice (some ⟨bA, oA, none⟩) n E])] (⟨some ⟨bA, oA, none⟩, E, 36, rwV bl n n⟩ :: rws bl n Z' n) → W'.cell? ⟨qr, 0, none⟩ = some (.slice (some ⟨bA, oA, none⟩) n E) ∧ W'.cell? ⟨bA, oA + nm x, none⟩ = some (.slice (some ⟨bl.getD (nm x) 0, 0, none⟩) n n) ∧ W'.cell? ⟨b, o + x, none⟩ = some (.slice (some ⟨P x, Q x, none⟩) n (C x)) ∧ W'.cell? ⟨P x, Q x + y, none⟩ = some (.int .i64 ((f x y : Nat) : Int))) := Lib.hid fun W' Z' h =>
                have g := HG.out.later h.below
                ⟨h.cell (k := 4) (i := 0) rfl rfl, by
                  obtain ⟨b9, o9, e9, _, _, hc9, _⟩ := (h.sl (k := 0) rfl).open (by show 0 < (rwV bl n n).length; rw [rwV_len]; omega)
                  simp only [Option.some.injEq, Addr.mk.injEq, and_true] at e9
                  obtain ⟨rfl, rfl⟩ := e9
                  exact hc9 _ _ (rwV_get l1), g.row x hxn, g.el x y hxn hyn⟩
              have HC1 := Lib.hid (HN.out (qn + 1) w.heap.size qn x wr.drew hxn (Hd.out.cell (k := 3) (i := 0) rfl rfl) (Hd.out.cell (k := 0) (i := 0) rfl rfl) (Hd.out.cell (k := 2) (i := 0) rfl rfl))
              have HC2 := Lib.hid (HN.out (qn + 1) w.heap.size qn y wr.drew hyn (Hd.out.cell (k := 3) (i := 0) rfl rfl) (Hd.out.cell (k := 0) (i := 0) rfl rfl) (Hd.out.cell (k := 2) (i := 0) rfl rfl))
              have HC3 := Lib.hid (HN.out (qn + 1) w.heap.size qn (f x y) wr.drew l3 (Hd.out.cell (k := 3) (i := 0) rfl rfl) (Hd.out.cell (k := 0) (i := 0) rfl rfl) (Hd.out.cell (k := 2) (i := 0) rfl rfl))
              generalize nth (Z (nm x)) (nm y) = u0 at *
              generalize (Z (nm x)).set (nm y) ((nm (f x y) : Nat) : Int) = R9 at *
              generalize nm (f x y) = V at *
              generalize f x y = fv at *
              generalize bl.getD (nm x) 0 = bR at *
              go_wp2_with fail
              go_region_held3 (fun W' => W'.cell? ⟨qr, 0, none⟩ = some (.slice (some ⟨bA, oA, none⟩) n E) ∧ W'.cell? ⟨bA, oA + nm x, none⟩ = some (.slice (some ⟨bR, 0, none⟩) n n) ∧ W'.cell? ⟨b, o + x, none⟩ = some (.slice (some ⟨P x, Q x, none⟩) n (C x)) ∧ W'.cell? ⟨P x, Q x + y, none⟩ = some (.int .i64 ((fv : Nat) : Int)))
                (first
                  | with_reducible exact HKS.out _ _ Hd.out
                  | with_reducible exact HKS.out _ _ Hsl.out)
                (first
                  | ((with_reducible refine HC1.out.mono ?_); rintro e w5 ⟨rfl, rfl⟩)
                  | ((with_reducible refine HC2.out.mono ?_); rintro e w5 ⟨rfl, rfl⟩)
                  | ((with_reducible refine HC3.out.mono ?_); rintro e w5 ⟨rfl, rfl⟩))
              all_goals
                clear hcR hfR
                go_wp2_with fail
                go_roundg (n - (y + 1))
                case measure => omega
                case rel => exact ⟨y + 1, _, by omega, rfl, by go_num, Hz2.out, Hsl.out⟩
            · obtain rfl : y = n := by omega
              go_wp2_with fail
              go_roundg (y - (x + 1))
              case measure => omega
              case rel => exact ⟨x + 1, Z, by omega, rfl, by go_num, Hz.out.row, Hh.out⟩
        · obtain rfl : n = x := by omega
          obtain ⟨hsR, hrenR⟩ := Hz.out.ren Hlt.out Hnl.out Hni.out
          have hqR := hrenR.qnd hsR h1 h30 Hlt.out Hdm.out Hiv.out Hds.out
          have Hct : Hid (∀ s, ((orbT f n).filter fun l => l.length == s).length = ((orbT (tbn (tbZ n Z)) n).filter fun l => l.length == s).length) := Lib.hid fun s => hrenR.count Hlt.out Hiv.out
          have HRw : Hid (Rws (rws bl n Z n) (tbZ n Z)) := Lib.hid ⟨by rw [rws_len, tbZ_len], fun i d hd => by
            have hi := (List.getElem?_eq_some_iff.1 hd).1
            rw [rws_len] at hi
            rw [← nthO_get, rws_nth hi] at hd
            cases hd
            exact ⟨rfl, by rw [tbZ_row hi]⟩⟩
          have HTR : Hid (∀ (W' : World) (l : Kn), HH w W' l (⟨some ⟨bA, oA, none⟩, E, 36, rwV bl n n⟩ :: rws bl n Z n) → TabAt W' (some ⟨bA, oA, none⟩) (tbZ n Z)) := Lib.hid fun W' l h => HRw.out.tab (l := l) (E := E) (by rw [rws_slV Hz.out.1]; exact h)
          have HOr : Hid (∀ (W' : World) (l : Kn), HH w W' l (⟨some ⟨bA, oA, none⟩, E, 36, rwV bl n n⟩ :: rws bl n Z n) → Calls Tryd.prog 20 #[.agg #[.slice (some ⟨bA, oA, none⟩) n E]] W' fun e w' => ∃ A E, e = .returned (.slice A (orbT (tbn (tbZ n Z)) n).length E) ∧ OwnRows w' W'.heap.size A E (orbT (tbn (tbZ n Z)) n) ∧ Below W'.heap.size W' w') := Lib.hid fun W' l h => orb_new (tbZ n Z) n _ E W' (tbZ_len n Z) (HTR.out W' l h) hqR
          have HVr : Hid (∀ (W' : World) (l : Kn), HH w W' l (⟨some ⟨bA, oA, none⟩, E, 36, rwV bl n n⟩ :: rws bl n Z n) → Calls Tryd.prog 15 #[.agg #[.slice (some ⟨bA, oA, none⟩) n E]] W' fun e w' => e = .returned (.bool true) ∧ Below W'.heap.size W' w') := Lib.hid fun W' l h => by
            have g := qvalid_any (tbZ n Z) (some ⟨bA, oA, none⟩) E W' (by rw [tbZ_len]; omega) (fun l hl => by
              obtain ⟨m, hm, rfl⟩ := List.mem_map.1 hl
              rw [Hz.out.1 m (List.mem_range.1 hm)]; omega) (HTR.out W' l h)
            rw [okB_yes hqR, tbZ_len] at g
            exact g
          have HUr : Hid (∀ i, i < (orbT f n).length → ((orbT f n).getD i []).length ≤ n) := Lib.hid fun i hi => by obtain ⟨u, _, he⟩ := orb_row hi; rw [he]; exact cls_len f n u
          have HVl : Hid (∀ i, i < (orbT (tbn (tbZ n Z)) n).length → ((orbT (tbn (tbZ n Z)) n).getD i []).length ≤ n) := Lib.hid fun i hi => by obtain ⟨u, _, he⟩ := orb_row hi; rw [he]; exact cls_len _ n u
          have hUl : (orbT f n).length ≤ 30 := by have := orbK_len f n n; unfold orbT; omega
          have hVl : (orbT (tbn (tbZ n Z)) n).length ≤ 30 := by have := orbK_len (tbn (tbZ n Z)) n n; unfold orbT; omega
          clear hsR hrenR hqR HTR HRw
          generalize orbT (tbn (tbZ n Z)) n = V at *
          generalize orbT f n = U at *
          have HUV := Lib.hid (len_same Hct.out)
          have Hend : Hid (∀ s, s ≤ n → nth (szs n U V U.length V.length) s = 0) := Lib.hid fun s hs => szs_end Hct.out hs
          have hmk9 : ∀ W : World, (Instr.makeSlice 36 (.int .i64 ((n : Int) + 1)) (.int .i64 ((n : Int) + 1))).run Tryd.prog W = .ok (.slice (some ⟨W.heap.size, 0, none⟩) (n + 1) (n + 1)) (W.alloc (.cells (Array.replicate (n + 1) (.int .i64 0)) 3)) := fun W => run_mk1 (T := 36) (z := .int .i64 0) (bytes := 8) Tryd.underlying36 Tryd.info3 rfl (n + 1) (n + 1) (Nat.le_refl _) (by omega) (by omega) W
          have c1 := Hh.out.cell (k := 2) (i := 0) rfl rfl
          have H8 := Lib.hid (Hh.out.alloc (Array.replicate (n + 1) (.int .i64 0)) 3 rfl (vs := ints (szs n U V 0 0)) (by rw [replicate_ints, szs_zero]))
          clear Hct Hz hxn hx Hnl Hni HN Hlt Hdm Hiv Hds HG
          go_wp2_with fail
          obtain ⟨v8, hv8⟩ : ∃ v, v = wr.alloc (.cells (Array.replicate (n + 1) (.int .i64 0)) 3) := ⟨_, rfl⟩
          rw [← hv8]
          rw [← hv8] at H8
          have hob : wr.heap.size < v8.drew.heap.size := H8.out.lt (List.mem_append_right _ List.mem_cons_self)
          generalize wr.heap.size = ob at *
          clear hv8 c1 hmk9 Hh
          have Hcur := Lib.hid H8.out.drew
          have HKS : Hid (∀ (W' : World), HH w W' [(w.heap.size, rowO 5 [.int .u8 (t : Int)]), (q1, rowO 25 [.slice (some ⟨b, o, none⟩) n c]), (qn, rowO 3 [.int .i64 (n : Int)]), (qn + 1, rowO 3 [.int .i64 (k : Int)]), (qr, rowO 25 [.slice (some ⟨bA, oA, none⟩) n E]), (ob, rowO 3 (ints (szs n U V 0 0)))] (⟨some ⟨bA, oA, none⟩, E, 36, rwV bl n n⟩ :: rws bl n Z n) → W'.cell? ⟨q1, 0, none⟩ = some (.slice (some ⟨b, o, none⟩) n c) ∧ W'.cell? ⟨qr, 0, none⟩ = some (.slice (some ⟨bA, oA, none⟩) n E)) := Lib.hid fun W' h => ⟨h.cell (k := 1) (i := 0) rfl rfl, h.cell (k := 4) (i := 0) rfl rfl⟩
          go_region_held3 (fun W' => W'.cell? ⟨q1, 0, none⟩ = some (.slice (some ⟨b, o, none⟩) n c) ∧ W'.cell? ⟨qr, 0, none⟩ = some (.slice (some ⟨bA, oA, none⟩) n E))
            (first
              | exact HKS.out _ Hcur.out)
            (first
              | ((with_reducible refine (HO.out _ Hcur.out.below).mono ?_); rintro e w5 ⟨A1, E1, rfl, hoA, hbA⟩; replace Hcur := Lib.hid (Hcur.out.call hbA))
              | ((with_reducible refine (HOr.out _ _ Hcur.out).mono ?_); rintro e w6 ⟨A2, E2, rfl, hoB, hbB⟩; replace Hcur := Lib.hid (Hcur.out.call hbB)))
          all_goals
            first
              | (have HA := Lib.hid (hoA.later hbB (Nat.le_refl _)); have HB := Lib.hid (hoB.mono hbA.size))
              | (have HA := Lib.hid (hoA.mono hbB.size); have HB := Lib.hid (hoB.later hbA (Nat.le_refl _)))
            clear hoA hoB hbA hbB HKS H8 HO HOr
            generalize v8.drew.heap.size = q7 at *
            go_wp2_with fail
            go_loopg [98] U.length (fun g v wr => ∃ i : Nat, i ≤ U.length ∧ g = U.length - i ∧ v = .int .i64 i ∧ OwnRows wr q7 A1 E1 U ∧ OwnRows wr q7 A2 E2 V ∧ HH w wr [(w.heap.size, rowO 5 [.int .u8 (t : Int)]), (q1, rowO 25 [.slice (some ⟨b, o, none⟩) n c]), (qn, rowO 3 [.int .i64 (n : Int)]), (qn + 1, rowO 3 [.int .i64 (k : Int)]), (qr, rowO 25 [.slice (some ⟨bA, oA, none⟩) n E]), (ob, rowO 3 (ints (szs n U V i 0)))] (⟨some ⟨bA, oA, none⟩, E, 36, rwV bl n n⟩ :: rws bl n Z n))
            case atStart => exact ⟨0, Nat.zero_le _, rfl, rfl, HA.out, HB.out, Hcur.out⟩
            case round =>
              obtain ⟨i, hi, rfl, rfl, ha, hb, hh⟩ := hrel
              replace HA := Lib.hid ha
              replace HB := Lib.hid hb
              replace Hcur := Lib.hid hh
              clear ha hb hh
              by_cases hil : i < U.length
              · obtain ⟨b1, o1, rfl, _, _, hrow⟩ := HA.out.open (by omega)
                obtain ⟨a', c', hci, _⟩ := hrow i _ (getD_some hil)
                have hl := HUr.out i hil
                obtain ⟨ll, hll⟩ : ∃ ll, (U.getD i []).length = ll := ⟨_, rfl⟩
                rw [hll] at hci hl
                have c1 := Hcur.out.cell (k := 2) (i := 0) rfl rfl
                have c2 := Hcur.out.int (k := 5) rfl ll (by rw [szs_len]; omega)
                have f2 := Hcur.out.frozen (k := 5) rfl ll
                obtain ⟨m1, m2⟩ := szs_mid (U := U) (V := V) (i := i) (j := 0) hl hUl hVl
                have HN2 := Lib.hid (Hcur.out.setInt (k := 5) rfl ll (nth (szs n U V i 0) ll + 1))
                rw [szs_up hil hll hl] at HN2
                have hbk : ∀ k, q7 ≤ k → (wr.setCell ⟨ob, ll, none⟩ (.int .i64 (nth (szs n U V i 0) ll + 1))).heap[k]? = wr.heap[k]? := fun k hk => Below.heap_setCell _ ⟨ob, ll, none⟩ _ k (fun e => by have e : k = ob := e; omega)
                have HA2 := Lib.hid (HA.out.keptB hbk)
                have HB2 := Lib.hid (HB.out.keptB hbk)
                have hmn : min (ll : Int) (n : Int) = (ll : Int) := by omega
                have d1 : decide ((ll : Int) < 0) = false := decide_eq_false (by omega)
                clear hrow hll hbk
                generalize nth (szs n U V i 0) ll = z at *
                have hz : wrap64 (z + 1) = z + 1 := wrap_mid (by omega) (by omega)
                go_wp2_with fail
                go_roundg (U.length - (i + 1))
                case measure => omega
                case rel => exact ⟨i + 1, by omega, rfl, by go_num, HA2.out, HB2.out, HN2.out⟩
              · obtain rfl : i = U.length := by omega
                go_wp2_with fail
                go_loopg [114] V.length (fun g v wr => ∃ i : Nat, i ≤ V.length ∧ g = V.length - i ∧ v = .int .i64 i ∧ OwnRows wr q7 A1 E1 U ∧ OwnRows wr q7 A2 E2 V ∧ HH w wr [(w.heap.size, rowO 5 [.int .u8 (t : Int)]), (q1, rowO 25 [.slice (some ⟨b, o, none⟩) n c]), (qn, rowO 3 [.int .i64 (n : Int)]), (qn + 1, rowO 3 [.int .i64 (k : Int)]), (qr, rowO 25 [.slice (some ⟨bA, oA, none⟩) n E]), (ob, rowO 3 (ints (szs n U V U.length i)))] (⟨some ⟨bA, oA, none⟩, E, 36, rwV bl n n⟩ :: rws bl n Z n))
                case atStart => exact ⟨0, Nat.zero_le _, rfl, rfl, HA.out, HB.out, Hcur.out⟩
                case round =>
                  obtain ⟨i, hi, rfl, rfl, ha, hb, hh⟩ := hrel
                  replace HA := Lib.hid ha
                  replace HB := Lib.hid hb
                  replace Hcur := Lib.hid hh
                  clear ha hb hh
                  by_cases hil : i < V.length
                  · obtain ⟨b1, o1, rfl, _, _, hrow⟩ := HB.out.open (by omega)
                    obtain ⟨a', c', hci, _⟩ := hrow i _ (getD_some hil)
                    have hl := HVl.out i hil
                    obtain ⟨ll, hll⟩ : ∃ ll, (V.getD i []).length = ll := ⟨_, rfl⟩
                    rw [hll] at hci hl
                    have c1 := Hcur.out.cell (k := 2) (i := 0) rfl rfl
                    have c2 := Hcur.out.int (k := 5) rfl ll (by rw [szs_len]; omega)
                    have f2 := Hcur.out.frozen (k := 5) rfl ll
                    obtain ⟨m1, m2⟩ := szs_mid (U := U) (V := V) (i := U.length) (j := i) hl hUl hVl
                    have HN2 := Lib.hid (Hcur.out.setInt (k := 5) rfl ll (nth (szs n U V U.length i) ll - 1))
                    rw [szs_dn hil hll hl] at HN2
                    have hbk : ∀ k, q7 ≤ k → (wr.setCell ⟨ob, ll, none⟩ (.int .i64 (nth (szs n U V U.length i) ll - 1))).heap[k]? = wr.heap[k]? := fun k hk => Below.heap_setCell _ ⟨ob, ll, none⟩ _ k (fun e => by have e : k = ob := e; omega)
                    have HA2 := Lib.hid (HA.out.keptB hbk)
                    have HB2 := Lib.hid (HB.out.keptB hbk)
                    have hmn : min (ll : Int) (n : Int) = (ll : Int) := by omega
                    have d1 : decide ((ll : Int) < 0) = false := decide_eq_false (by omega)
                    clear hrow hll hbk
                    generalize nth (szs n U V U.length i) ll = z at *
                    have hz : wrap64 (z - 1) = z - 1 := wrap_mid (by omega) (by omega)
                    go_wp2_with fail
                    go_roundg (V.length - (i + 1))
                    case measure => omega
                    case rel => exact ⟨i + 1, by omega, rfl, by go_num, HA2.out, HB2.out, HN2.out⟩
                  · obtain rfl : i = V.length := by omega
                    go_wp2_with fail
                    clear HA HB HUr HVl
                    go_loopg [130] (n + 1) (fun g v wr => ∃ i : Nat, i ≤ n + 1 ∧ g = n + 1 - i ∧ v = .int .i64 i ∧ HH w wr [(w.heap.size, rowO 5 [.int .u8 (t : Int)]), (q1, rowO 25 [.slice (some ⟨b, o, none⟩) n c]), (qn, rowO 3 [.int .i64 (n : Int)]), (qn + 1, rowO 3 [.int .i64 (k : Int)]), (qr, rowO 25 [.slice (some ⟨bA, oA, none⟩) n E]), (ob, rowO 3 (ints (szs n U V U.length V.length)))] (⟨some ⟨bA, oA, none⟩, E, 36, rwV bl n n⟩ :: rws bl n Z n))
                    case atStart => exact ⟨0, Nat.zero_le _, rfl, rfl, Hcur.out⟩
                    case round =>
                      obtain ⟨i, hi9, rfl, rfl, hh⟩ := hrel
                      replace Hcur := Lib.hid hh
                      clear hh
                      by_cases hil : i < n + 1
                      · have c2 := Hcur.out.int (k := 5) rfl i (by rw [szs_len]; omega)
                        rw [Hend.out i (by omega)] at c2
                        have d1 : decide ((i : Int) < (n : Int) + 1) = true := decide_eq_true (by omega)
                        go_wp2_with fail
                        go_roundg (n + 1 - (i + 1))
                        case measure => omega
                        case rel => exact ⟨i + 1, by omega, rfl, by go_num, Hcur.out⟩
                      · obtain rfl : i = n + 1 := by omega
                        have c1 := Hcur.out.cell (k := 4) (i := 0) rfl rfl
                        have e1 : (U.length : Int) = (V.length : Int) := by rw [HUV.out]
                        have e2 : ((U.length : Int) == (V.length : Int)) = true := by rw [HUV.out]; simp
                        have e3 : decide ((U.length : Int) = (V.length : Int)) = true := decide_eq_true e1
                        clear e1
                        go_wp2_with fail
                        refine (HVr.out _ _ Hcur.out).mono ?_
                        rintro e w9 ⟨rfl, hb⟩
                        have Hfin := Lib.hid (Hcur.out.call hb)
                        clear hb
                        go_wp2_with fail
                        go_ret
                        exact ⟨rfl, Hfin.out.below⟩
set_option maxRecDepth 100000 in
set_option maxHeartbeats 4000000 in
theorem lren_y0 (T : List (List Int)) (n b o : Nat) (P Q C : Nat → Nat) (c t m s k k0 : Nat) (w : World) (hn : T.length = n) (hs : Sml T) (hq : Qnd T) (hG : Grd w b o P Q C n (tbn T)) (ht : t ≤ 255) (hm : m ≤ 255) (hms : m % n = s) (hk : 1 + s = k0) (hg : ¬ Nat.gcd (((k0 : Nat) : Int) % (n : Int)).toNat n = 1) (hk1 : k = 1) :
    Calls Tryd.prog 6 #[.slice (some ⟨b, o, none⟩) n c, .int .u8 (t : Int), .int .u8 (m : Int)] w fun e w' => e = .returned (.bool true) ∧ Below w.heap.size w w' := by
  have hsh := hq.2.1
  have hl := hq.1
  rw [hn] at hsh hl
  have hT := grd_tab hG hsh
  have HS : Hid (∀ W', Below w.heap.size w W' → Calls Tryd.prog 17 #[.slice (some ⟨b, o, none⟩) n c] W' fun e w' => e = .returned (.int .i64 1) ∧ Below W'.heap.size W' w') := Lib.hid fun W' h => by rw [← hn]; exact small_yes T _ c W' (hT.later h) hs
  have HV : Hid (∀ W', Below w.heap.size w W' → Calls Tryd.prog 15 #[.agg #[.slice (some ⟨b, o, none⟩) n c]] W' fun e w' => e = .returned (.bool true) ∧ Below W'.heap.size W' w') := Lib.hid fun W' h => by
    have g := qvalid_any T (some ⟨b, o, none⟩) c W' (by have := hs.1; omega) (fun l hl => by have := hs.rows l hl; omega) (hT.later h)
    rw [okB_yes hq, hn] at g
    exact g
  have h1 := hl.1
  have h30 := hl.2
  have HC : Hid (∀ W', Calls Tryd.prog 16 #[.int .i64 (n : Int), .int .i64 (k0 : Int)] W' fun e w' => e = .returned (.bool false) ∧ Below W'.heap.size W' w') := Lib.hid fun W' => by
    have h := cop_any n (k0 : Int) W' h1 h30
    rw [decide_eq_false (fun h9 => h9 (by have := Nat.gcd_pos_of_pos_right (((k0 : Nat) : Int) % (n : Int)).toNat (show 0 < n by omega); omega))] at h
    exact h
  have hn0 : (n : Int) ≠ 0 := by omega
  have hn00 : n ≠ 0 := by omega
  have f1 : (m : Int) % (n : Int) = (s : Int) := by rw [← hms]; exact (Int.natCast_emod _ _).symm
  have f2 : (m : Int).tmod (n : Int) = (s : Int) := by rw [Int.tmod_eq_emod_of_nonneg (by omega)]; exact f1
  have f3 : 1 + (s : Int) = (k0 : Int) := by omega
  have hsn : s < n := by rw [← hms]; exact Nat.mod_lt _ (by omega)
  have hk30 : k ≤ 30 := by omega
  have HGcd : Hid (Nat.gcd k n = 1) := Lib.hid (by rw [hk1]; exact Nat.gcd_one_left n)
  have HO : Hid (∀ W', Below w.heap.size w W' → Calls Tryd.prog 20 #[.agg #[.slice (some ⟨b, o, none⟩) n c]] W' fun e w' => ∃ A E, e = .returned (.slice A (orbT (tbn T) n).length E) ∧ OwnRows w' W'.heap.size A E (orbT (tbn T) n) ∧ Below W'.heap.size W' w') := Lib.hid fun W' h => orb_new T n _ c W' hn (hT.later h) hq
  have Hlt : Hid (∀ x y, x < n → y < n → tbn T x y < n) := Lib.hid fun x y hx hy => (tb_tbn hsh hx hy).2
  have Hdm : Hid (IdmN (tbn T) n) := Lib.hid ((idm_iff hsh).1 (by rw [← hn]; exact hq.2.2.1))
  have Hiv : Hid (IvtN (tbn T) n) := Lib.hid ((ivt_iff hsh).1 (by rw [← hn]; exact hq.2.2.2.1))
  have Hds : Hid (DstN (tbn T) n) := Lib.hid ((dst_iff hsh).1 (by rw [← hn]; exact hq.2.2.2.2))
  have HG := Lib.hid hG
  have Hnl : Hid (∀ x, x < n → nmV n k t x < n) := Lib.hid fun x _ => nmV_lt n k t x (by omega)
  have Hni : Hid (∀ x y, x < n → y < n → nmV n k t x = nmV n k t y → x = y) := Lib.hid fun x y hx hy e => nmV_inj n k t x y HGcd.out hx hy e
  have HN : Hid (∀ (bk bb bn x : Nat) (W : World), x < n → W.cell? ⟨bk, 0, none⟩ = some (.int .i64 (k : Int)) → W.cell? ⟨bb, 0, none⟩ = some (.int .u8 (t : Int)) → W.cell? ⟨bn, 0, none⟩ = some (.int .i64 (n : Int)) →
    Calls Tryd.prog 22 #[.int .i64 (x : Int), .pointer (some ⟨bk, 0, none⟩), .pointer (some ⟨bb, 0, none⟩), .pointer (some ⟨bn, 0, none⟩)] W fun e w' => e = .returned (.int .i64 (nmV n k t x : Nat)) ∧ w' = W) := Lib.hid fun bk bb bn x W hx g1 g2 g3 => name_any bk bb bn n k t x W h1 hk30 ht (by omega) g1 g2 g3
  generalize nmV n k t = nm at *
  generalize tbn T = f at *
  have hmk := run_mk1 (T := 36) (z := .int .i64 0) (bytes := 8) Tryd.underlying36 Tryd.info3 rfl n n (Nat.le_refl _) (by omega) (by omega)
  obtain ⟨j0, hj0, hy0, hy1, hy2⟩ := info_parts Tryd.info36
  have hki : (k : Int) = 1 := by rw [hk1]; rfl
  clear hk1
  clear hn hs hq hT hsh hl hg hms hk HGcd hG
  have H0 := Lib.hid ((HH.start w).alloc #[.int .u8 (t : Int)] 5 rfl rfl)
  obtain ⟨v0, hv⟩ : ∃ x, x = w.alloc (.cells #[.int .u8 (t : Int)] 5) := ⟨_, rfl⟩
  rw [← hv] at H0
  go_enter Tryd.func6, Tryd.ntmps6
  go_wp2_with fail
  rw [← hv]
  clear hv
  refine (awake_any v0).mono ?_
  rintro e w1 ⟨rfl, hb⟩
  have H1 := Lib.hid ((H0.out.call hb).alloc #[.slice (some ⟨b, o, none⟩) n c] 25 rfl rfl)
  clear hb H0
  obtain ⟨v1, hv⟩ : ∃ x, x = w1.alloc (.cells #[.slice (some ⟨b, o, none⟩) n c] 25) := ⟨_, rfl⟩
  go_wp2_with fail
  rw [← hv]
  rw [← hv] at H1
  generalize w1.heap.size = q1 at *
  clear hv
  refine (HS.out v1 H1.out.below).mono ?_
  rintro e w2 ⟨rfl, hb⟩
  have H2 := Lib.hid (H1.out.call hb)
  clear hb H1 HS
  have hc1 := H2.out.cell (k := 1) (i := 0) rfl rfl
  go_wp2_with fail
  clear hc1
  refine (HV.out w2 H2.out.below).mono ?_
  rintro e w3 ⟨rfl, hb⟩
  have H3 := Lib.hid (((H2.out.call hb).alloc #[.int .i64 (n : Int)] 3 rfl rfl).alloc #[.int .i64 (k0 : Int)] 3 rfl rfl)
  clear hb H2 HV
  have hc3 := ((H3.out).cell (k := 2) (i := 0) rfl rfl)
  go_wp2_with fail
  clear hc3 f1 f2 f3
  rw [show (w3.alloc (Obj.cells #[Value.int IntKind.i64 ↑n] 3)).heap.size = w3.heap.size + 1 by simp] at H3
  generalize w3.heap.size = qn at *
  refine (HC.out _).mono ?_
  rintro e w4 ⟨rfl, hb⟩
  have H4 := Lib.hid (H3.out.call hb)
  clear hb H3 HC
  have hf4 := H4.out.frozen (k := 3) rfl 0
  have hc4 := H4.out.cell (k := 3) (i := 0) rfl rfl
  have h9 : HH w (w4.setCell ⟨qn + 1, 0, none⟩ (.int .i64 (1 : Int))) [(w.heap.size, rowO 5 [.int .u8 (t : Int)]), (q1, rowO 25 [.slice (some ⟨b, o, none⟩) n c]), (qn, rowO 3 [.int .i64 (n : Int)]), (qn + 1, rowO 3 [.int .i64 (k : Int)])] [] := by rw [hki]; exact H4.out.set (k := 3) rfl 0 (.int .i64 (1 : Int))
  replace H4 := Lib.hid h9
  clear h9 hki
  have H5 := Lib.hid ((H4.out.alloc #[.slice none 0 0] 25 rfl rfl).addNil 36)
  have hc5 := H5.out.cell (k := 2) (i := 0) rfl rfl
  go_wp2_with fail
  rw [show (w4.setCell ⟨qn + 1, 0, none⟩ (.int .i64 (1 : Int))).heap.size = w4.heap.size by simp] at H5
  generalize w4.heap.size = qr at *
  clear hc5
  clear hf4 hc4
  go_loopg [49] n (fun g v wr => ∃ (i : Nat) (A : Option Addr) (E : Nat) (bl : List Nat), i ≤ n ∧ g = n - i ∧ v = .int .i64 i ∧ bl.length = i ∧ HH w wr [(w.heap.size, rowO 5 [.int .u8 (t : Int)]), (q1, rowO 25 [.slice (some ⟨b, o, none⟩) n c]), (qn, rowO 3 [.int .i64 (n : Int)]), (qn + 1, rowO 3 [.int .i64 (k : Int)]), (qr, rowO 25 [.slice A i E])] (⟨A, E, 36, rwV bl n i⟩ :: rws bl n (fun _ => List.replicate n 0) i))
  case atStart => exact ⟨0, none, 0, [], Nat.zero_le _, rfl, rfl, rfl, H5.out⟩
  case round =>
    obtain ⟨i, A, E, bl, hi, rfl, rfl, hbl, hh⟩ := hrel
    have Hh := Lib.hid hh
    have Hbl := Lib.hid hbl
    clear hh hbl H5 H4
    by_cases hin : i < n
    · have Hm := Lib.hid (Hh.out.addSl ((Below.refl _ _).alloc (Nat.le_refl _) (.cells (Array.replicate n (.int .i64 0)) 3)) (a := some ⟨wr.heap.size, 0, none⟩) (c := n) (E := 3) (vs := ints (List.replicate n 0)) (by have h := Own.made (w := wr) (B := wr.heap.size) (E := 3) (Array.replicate n (.int .i64 0)) (Nat.le_refl _); rw [Array.size_replicate, replicate_ints] at h; exact h))
      have Ha := Lib.hid (Hm.out.call ((Below.refl _ _).alloc (Nat.le_refl _) (.cells #[.slice (some ⟨wr.heap.size, 0, none⟩) n n] 36))).drew
      have c1 := Hh.out.cell (k := 4) (i := 0) rfl rfl
      have c2 := Hh.out.cell (k := 2) (i := 0) rfl rfl
      have c3 := Hm.out.cell (k := 4) (i := 0) rfl rfl
      have c4 := Hm.out.cell (k := 2) (i := 0) rfl rfl
      have c5 := Ha.out.cell (k := 4) (i := 0) rfl rfl
      have c6 := Ha.out.cell (k := 2) (i := 0) rfl rfl
      have Hn0 : Hid ((rwV bl n i).length = i) := Lib.hid (rwV_len bl n i)
      have Hc0 : Hid (((wr.alloc (.cells (Array.replicate n (.int .i64 0)) 3)).alloc (.cells #[.slice (some ⟨wr.heap.size, 0, none⟩) n n] 36)).drew.cell? ⟨wr.heap.size + 1, 0, none⟩ = some (.slice (some ⟨wr.heap.size, 0, none⟩) n n)) := Lib.hid (by
        have e : (wr.alloc (.cells (Array.replicate n (.int .i64 0)) 3)).heap.size = wr.heap.size + 1 := by simp
        rw [← e]; exact ((Row.new _ #[.slice (some ⟨wr.heap.size, 0, none⟩) n n] 36).cell 0))
      have Hl1 := Lib.hid Ha.out.below.size
      go_upto_region 14 with fail
      go_region_law ((refine step_append_row rfl (.tmp 52) (.tmp 55) rfl w.heap.size j0 hj0 hy0 hy1 hy2 A i E (rwV bl n i) rfl Hn0.out (Ha.out.sl (k := 0) rfl) ⟨wr.heap.size + 1, 0, none⟩ 1 (.slice (some ⟨wr.heap.size, 0, none⟩) n n) rfl Hc0.out rfl (by omega) Hl1.out ?_); intro A3 e3 w5 hO2 hT2 hA2; have H6 := Ha.out.grow (k := 0) rfl hO2 hT2 hA2; have hd := H6.cell (k := 4) (i := 0) rfl rfl; have hf := H6.frozen (k := 4) rfl 0; have H7 := Lib.hid (H6.set (k := 4) rfl 0 (.slice A3 (i + 1) e3)); clear H6 hO2 hT2 hA2)
      all_goals
        clear hd hf c1 c2 c3 c4 c5 c6
        go_wp2_with fail
        go_roundg (n - (i + 1))
        case measure => omega
        case rel =>
          refine ⟨i + 1, A3, e3, bl ++ [wr.heap.size], by omega, rfl, by go_num, by rw [List.length_append, Hbl.out]; rfl, ?_⟩
          have h := H7.out
          rw [← rwV_snoc _ Hbl.out, ← rws_snoc _ Hbl.out]
          exact h
    · obtain rfl : n = i := by omega
      obtain ⟨bA, oA, rfl, hBA, _, _, _⟩ := (Hh.out.sl (k := 0) rfl).open (by show 0 < (rwV bl n n).length; rw [rwV_len]; omega)
      have c1 := Hh.out.cell (k := 2) (i := 0) rfl rfl
      clear hin hi hmk hj0 hy0 hy1 hy2
      go_wp2_with fail
      clear c1
      go_loopg [60] n (fun g v wr => ∃ (x : Nat) (Z : Nat → List Int), x ≤ n ∧ g = n - x ∧ v = .int .i64 x ∧ Wrt n f nm Z x 0 ∧ HH w wr [(w.heap.size, rowO 5 [.int .u8 (t : Int)]), (q1, rowO 25 [.slice (some ⟨b, o, none⟩) n c]), (qn, rowO 3 [.int .i64 (n : Int)]), (qn + 1, rowO 3 [.int .i64 (k : Int)]), (qr, rowO 25 [.slice (some ⟨bA, oA, none⟩) n E])] (⟨some ⟨bA, oA, none⟩, E, 36, rwV bl n n⟩ :: rws bl n Z n))
      case atStart => exact ⟨0, _, Nat.zero_le _, rfl, rfl, Wrt.zero n f nm, Hh.out⟩
      case round =>
        obtain ⟨x, Z, hx, rfl, rfl, hz, hh⟩ := hrel
        replace Hh := Lib.hid hh
        have Hz := Lib.hid hz
        clear hh hz
        by_cases hxn : x < n
        · have c1 := Hh.out.cell (k := 2) (i := 0) rfl rfl
          go_wp2_with fail
          clear c1
          go_loopg [64] n (fun g v wr => ∃ (y : Nat) (Z : Nat → List Int), y ≤ n ∧ g = n - y ∧ v = .int .i64 y ∧ Wrt n f nm Z x y ∧ HH w wr [(w.heap.size, rowO 5 [.int .u8 (t : Int)]), (q1, rowO 25 [.slice (some ⟨b, o, none⟩) n c]), (qn, rowO 3 [.int .i64 (n : Int)]), (qn + 1, rowO 3 [.int .i64 (k : Int)]), (qr, rowO 25 [.slice (some ⟨bA, oA, none⟩) n E])] (⟨some ⟨bA, oA, none⟩, E, 36, rwV bl n n⟩ :: rws bl n Z n))
          case atStart => exact ⟨0, Z, Nat.zero_le _, rfl, rfl, Hz.out, Hh.out⟩
          case round =>
            obtain ⟨y, Z, hy, rfl, rfl, hz, hh⟩ := hrel
            replace Hh := Lib.hid hh
            replace Hz := Lib.hid hz
            clear hh hz
            by_cases hyn : y < n
            · have l1 := Hnl.out x hxn
              have l2 := Hnl.out y hyn
              have l3 := Hlt.out x y hxn hyn
              have l4 := Hnl.out _ l3
              have Hz2 := Lib.hid (Hz.out.step hxn hyn Hnl.out Hni.out)
              have Hd := Lib.hid Hh.out.drew
              have hsl := Hh.out.slSet (k := nm x + 1) (rws_nth l1) (nm y) (by rw [ints_length, Hz.out.1 _ l1]; exact l2) (.int .i64 (nm (f x y) : Nat))
              have hrw := Hh.out.sl (k := nm x + 1) (rws_nth l1)
              obtain ⟨bR, oR, hRe, _, _, hRc, hRf⟩ := hrw.open (by show 0 < (ints (Z (nm x))).length; rw [ints_length, Hz.out.1 _ l1]; omega)
              simp only [Option.some.injEq, Addr.mk.injEq, and_true] at hRe
              obtain ⟨hRe, rfl⟩ := hRe
              have hcR := hRc (nm y) _ (ints_get _ _ (by rw [Hz.out.1 _ l1]; exact l2))
              have hfR := hRf (nm y)
              rw [Nat.zero_add] at hcR hsl
              rw [ints_set] at hsl
              replace hsl : HH w (wr.setCell ⟨bl.getD (nm x) 0, nm y, none⟩ (.int .i64 (nm (f x y) : Nat))) [(w.heap.size, rowO 5 [.int .u8 (t : Int)]), (q1, rowO 25 [.slice (some ⟨b, o, none⟩) n c]), (qn, rowO 3 [.int .i64 (n : Int)]), (qn + 1, rowO 3 [.int .i64 (k : Int)]), (qr, rowO 25 [.slice (some ⟨bA, oA, none⟩) n E])] (⟨some ⟨bA, oA, none⟩, E, 36, rwV bl n n⟩ :: rws bl n (upd Z (nm x) ((Z (nm x)).set (nm y) ((nm (f x y) : Nat) : Int))) n) := by
                have e := rws_set (bl := bl) (n := n) (k := n) (Z := Z) ((Z (nm x)).set (nm y) ((nm (f x y) : Nat) : Int)) l1
                rw [← e]
                exact hsl
              have Hsl := Lib.hid hsl.drew
              rw [← hRe] at hcR hfR
              clear hsl hrw hRc hRf hRe
              have HKS : Hid (∀ (W' : World) (Z' : Nat → List Int), HH w W' [(w.heap.size, rowO 5 [.int .u8 (t : Int)]), (q1, rowO 25 [.slice (some ⟨b, o, none⟩) n c]), (qn, rowO 3 [.int .i64 (n : Int)]), (qn + 1, rowO 3 [.int .i64 (k : Int)]), (qr, rowO 25 [.slice (some ⟨bA, oA, none⟩) n E])] (⟨some ⟨bA, oA, none⟩, E, 36, rwV bl n n⟩ :: rws bl n Z' n) → W'.cell? ⟨qr, 0, none⟩ = some (.slice (some ⟨bA, oA, none⟩) n E) ∧ W'.cell? ⟨bA, oA + nm x, none⟩ = some (.slice (some ⟨bl.getD (nm x) 0, 0, none⟩) n n) ∧ W'.cell? ⟨b, o + x, none⟩ = some (.slice (some ⟨P x, Q x, none⟩) n (C x)) ∧ W'.cell? ⟨P x, Q x + y, none⟩ = some (.int .i64 ((f x y : Nat) : Int))) := Lib.hid fun W' Z' h =>
                have g := HG.out.later h.below
                ⟨h.cell (k := 4) (i := 0) rfl rfl, by
                  obtain ⟨b9, o9, e9, _, _, hc9, _⟩ := (h.sl (k := 0) rfl).open (by show 0 < (rwV bl n n).length; rw [rwV_len]; omega)
                  simp only [Option.some.injEq, Addr.mk.injEq, and_true] at e9
                  obtain ⟨rfl, rfl⟩ := e9
                  exact hc9 _ _ (rwV_get l1), g.row x hxn, g.el x y hxn hyn⟩
              have HC1 := Lib.hid (HN.out (qn + 1) w.heap.size qn x wr.drew hxn (Hd.out.cell (k := 3) (i := 0) rfl rfl) (Hd.out.cell (k := 0) (i := 0) rfl rfl) (Hd.out.cell (k := 2) (i := 0) rfl rfl))
              have HC2 := Lib.hid (HN.out (qn + 1) w.heap.size qn y wr.drew hyn (Hd.out.cell (k := 3) (i := 0) rfl rfl) (Hd.out.cell (k := 0) (i := 0) rfl rfl) (Hd.out.cell (k := 2) (i := 0) rfl rfl))
              have HC3 := Lib.hid (HN.out (qn + 1) w.heap.size qn (f x y) wr.drew l3 (Hd.out.cell (k := 3) (i := 0) rfl rfl) (Hd.out.cell (k := 0) (i := 0) rfl rfl) (Hd.out.cell (k := 2) (i := 0) rfl rfl))
              generalize nth (Z (nm x)) (nm y) = u0 at *
              generalize (Z (nm x)).set (nm y) ((nm (f x y) : Nat) : Int) = R9 at *
              generalize nm (f x y) = V at *
              generalize f x y = fv at *
              generalize bl.getD (nm x) 0 = bR at *
              go_wp2_with fail
              go_region_held3 (fun W' => W'.cell? ⟨qr, 0, none⟩ = some (.slice (some ⟨bA, oA, none⟩) n E) ∧ W'.cell? ⟨bA, oA + nm x, none⟩ = some (.slice (some ⟨bR, 0, none⟩) n n) ∧ W'.cell? ⟨b, o + x, none⟩ = some (.slice (some ⟨P x, Q x, none⟩) n (C x)) ∧ W'.cell? ⟨P x, Q x + y, none⟩ = some (.int .i64 ((fv : Nat) : Int)))
                (first
                  | with_reducible exact HKS.out _ _ Hd.out
                  | with_reducible exact HKS.out _ _ Hsl.out)
                (first
                  | ((with_reducible refine HC1.out.mono ?_); rintro e w5 ⟨rfl, rfl⟩)
                  | ((with_reducible refine HC2.out.mono ?_); rintro e w5 ⟨rfl, rfl⟩)
                  | ((with_reducible refine HC3.out.mono ?_); rintro e w5 ⟨rfl, rfl⟩))
              all_goals
                clear hcR hfR
                go_wp2_with fail
                go_roundg (n - (y + 1))
                case measure => omega
                case rel => exact ⟨y + 1, _, by omega, rfl, by go_num, Hz2.out, Hsl.out⟩
            · obtain rfl : y = n := by omega
              go_wp2_with fail
              go_roundg (y - (x + 1))
              case measure => omega
              case rel => exact ⟨x + 1, Z, by omega, rfl, by go_num, Hz.out.row, Hh.out⟩
        · obtain rfl : n = x := by omega
          obtain ⟨hsR, hrenR⟩ := Hz.out.ren Hlt.out Hnl.out Hni.out
          have hqR := hrenR.qnd hsR h1 h30 Hlt.out Hdm.out Hiv.out Hds.out
          have Hct : Hid (∀ s, ((orbT f n).filter fun l => l.length == s).length = ((orbT (tbn (tbZ n Z)) n).filter fun l => l.length == s).length) := Lib.hid fun s => hrenR.count Hlt.out Hiv.out
          have HRw : Hid (Rws (rws bl n Z n) (tbZ n Z)) := Lib.hid ⟨by rw [rws_len, tbZ_len], fun i d hd => by
            have hi := (List.getElem?_eq_some_iff.1 hd).1
            rw [rws_len] at hi
            rw [← nthO_get, rws_nth hi] at hd
            cases hd
            exact ⟨rfl, by rw [tbZ_row hi]⟩⟩
          have HTR : Hid (∀ (W' : World) (l : Kn), HH w W' l (⟨some ⟨bA, oA, none⟩, E, 36, rwV bl n n⟩ :: rws bl n Z n) → TabAt W' (some ⟨bA, oA, none⟩) (tbZ n Z)) := Lib.hid fun W' l h => HRw.out.tab (l := l) (E := E) (by rw [rws_slV Hz.out.1]; exact h)
          have HOr : Hid (∀ (W' : World) (l : Kn), HH w W' l (⟨some ⟨bA, oA, none⟩, E, 36, rwV bl n n⟩ :: rws bl n Z n) → Calls Tryd.prog 20 #[.agg #[.slice (some ⟨bA, oA, none⟩) n E]] W' fun e w' => ∃ A E, e = .returned (.slice A (orbT (tbn (tbZ n Z)) n).length E) ∧ OwnRows w' W'.heap.size A E (orbT (tbn (tbZ n Z)) n) ∧ Below W'.heap.size W' w') := Lib.hid fun W' l h => orb_new (tbZ n Z) n _ E W' (tbZ_len n Z) (HTR.out W' l h) hqR
          have HVr : Hid (∀ (W' : World) (l : Kn), HH w W' l (⟨some ⟨bA, oA, none⟩, E, 36, rwV bl n n⟩ :: rws bl n Z n) → Calls Tryd.prog 15 #[.agg #[.slice (some ⟨bA, oA, none⟩) n E]] W' fun e w' => e = .returned (.bool true) ∧ Below W'.heap.size W' w') := Lib.hid fun W' l h => by
            have g := qvalid_any (tbZ n Z) (some ⟨bA, oA, none⟩) E W' (by rw [tbZ_len]; omega) (fun l hl => by
              obtain ⟨m, hm, rfl⟩ := List.mem_map.1 hl
              rw [Hz.out.1 m (List.mem_range.1 hm)]; omega) (HTR.out W' l h)
            rw [okB_yes hqR, tbZ_len] at g
            exact g
          have HUr : Hid (∀ i, i < (orbT f n).length → ((orbT f n).getD i []).length ≤ n) := Lib.hid fun i hi => by obtain ⟨u, _, he⟩ := orb_row hi; rw [he]; exact cls_len f n u
          have HVl : Hid (∀ i, i < (orbT (tbn (tbZ n Z)) n).length → ((orbT (tbn (tbZ n Z)) n).getD i []).length ≤ n) := Lib.hid fun i hi => by obtain ⟨u, _, he⟩ := orb_row hi; rw [he]; exact cls_len _ n u
          have hUl : (orbT f n).length ≤ 30 := by have := orbK_len f n n; unfold orbT; omega
          have hVl : (orbT (tbn (tbZ n Z)) n).length ≤ 30 := by have := orbK_len (tbn (tbZ n Z)) n n; unfold orbT; omega
          clear hsR hrenR hqR HTR HRw
          generalize orbT (tbn (tbZ n Z)) n = V at *
          generalize orbT f n = U at *
          have HUV := Lib.hid (len_same Hct.out)
          have Hend : Hid (∀ s, s ≤ n → nth (szs n U V U.length V.length) s = 0) := Lib.hid fun s hs => szs_end Hct.out hs
          have hmk9 : ∀ W : World, (Instr.makeSlice 36 (.int .i64 ((n : Int) + 1)) (.int .i64 ((n : Int) + 1))).run Tryd.prog W = .ok (.slice (some ⟨W.heap.size, 0, none⟩) (n + 1) (n + 1)) (W.alloc (.cells (Array.replicate (n + 1) (.int .i64 0)) 3)) := fun W => run_mk1 (T := 36) (z := .int .i64 0) (bytes := 8) Tryd.underlying36 Tryd.info3 rfl (n + 1) (n + 1) (Nat.le_refl _) (by omega) (by omega) W
          have c1 := Hh.out.cell (k := 2) (i := 0) rfl rfl
          have H8 := Lib.hid (Hh.out.alloc (Array.replicate (n + 1) (.int .i64 0)) 3 rfl (vs := ints (szs n U V 0 0)) (by rw [replicate_ints, szs_zero]))
          clear Hct Hz hxn hx Hnl Hni HN Hlt Hdm Hiv Hds HG
          go_wp2_with fail
          obtain ⟨v8, hv8⟩ : ∃ v, v = wr.alloc (.cells (Array.replicate (n + 1) (.int .i64 0)) 3) := ⟨_, rfl⟩
          rw [← hv8]
          rw [← hv8] at H8
          have hob : wr.heap.size < v8.drew.heap.size := H8.out.lt (List.mem_append_right _ List.mem_cons_self)
          generalize wr.heap.size = ob at *
          clear hv8 c1 hmk9 Hh
          have Hcur := Lib.hid H8.out.drew
          have HKS : Hid (∀ (W' : World), HH w W' [(w.heap.size, rowO 5 [.int .u8 (t : Int)]), (q1, rowO 25 [.slice (some ⟨b, o, none⟩) n c]), (qn, rowO 3 [.int .i64 (n : Int)]), (qn + 1, rowO 3 [.int .i64 (k : Int)]), (qr, rowO 25 [.slice (some ⟨bA, oA, none⟩) n E]), (ob, rowO 3 (ints (szs n U V 0 0)))] (⟨some ⟨bA, oA, none⟩, E, 36, rwV bl n n⟩ :: rws bl n Z n) → W'.cell? ⟨q1, 0, none⟩ = some (.slice (some ⟨b, o, none⟩) n c) ∧ W'.cell? ⟨qr, 0, none⟩ = some (.slice (some ⟨bA, oA, none⟩) n E)) := Lib.hid fun W' h => ⟨h.cell (k := 1) (i := 0) rfl rfl, h.cell (k := 4) (i := 0) rfl rfl⟩
          go_region_held3 (fun W' => W'.cell? ⟨q1, 0, none⟩ = some (.slice (some ⟨b, o, none⟩) n c) ∧ W'.cell? ⟨qr, 0, none⟩ = some (.slice (some ⟨bA, oA, none⟩) n E))
            (first
              | exact HKS.out _ Hcur.out)
            (first
              | ((with_reducible refine (HO.out _ Hcur.out.below).mono ?_); rintro e w5 ⟨A1, E1, rfl, hoA, hbA⟩; replace Hcur := Lib.hid (Hcur.out.call hbA))
              | ((with_reducible refine (HOr.out _ _ Hcur.out).mono ?_); rintro e w6 ⟨A2, E2, rfl, hoB, hbB⟩; replace Hcur := Lib.hid (Hcur.out.call hbB)))
          all_goals
            first
              | (have HA := Lib.hid (hoA.later hbB (Nat.le_refl _)); have HB := Lib.hid (hoB.mono hbA.size))
              | (have HA := Lib.hid (hoA.mono hbB.size); have HB := Lib.hid (hoB.later hbA (Nat.le_refl _)))
            clear hoA hoB hbA hbB HKS H8 HO HOr
            generalize v8.drew.heap.size = q7 at *
            go_wp2_with fail
            go_loopg [98] U.length (fun g v wr => ∃ i : Nat, i ≤ U.length ∧ g = U.length - i ∧ v = .int .i64 i ∧ OwnRows wr q7 A1 E1 U ∧ OwnRows wr q7 A2 E2 V ∧ HH w wr [(w.heap.size, rowO 5 [.int .u8 (t : Int)]), (q1, rowO 25 [.slice (some ⟨b, o, none⟩) n c]), (qn, rowO 3 [.int .i64 (n : Int)]), (qn + 1, rowO 3 [.int .i64 (k : Int)]), (qr, rowO 25 [.slice (some ⟨bA, oA, none⟩) n E]), (ob, rowO 3 (ints (szs n U V i 0)))] (⟨some ⟨bA, oA, none⟩, E, 36, rwV bl n n⟩ :: rws bl n Z n))
            case atStart => exact ⟨0, Nat.zero_le _, rfl, rfl, HA.out, HB.out, Hcur.out⟩
            case round =>
              obtain ⟨i, hi, rfl, rfl, ha, hb, hh⟩ := hrel
              replace HA := Lib.hid ha
              replace HB := Lib.hid hb
              replace Hcur := Lib.hid hh
              clear ha hb hh
              by_cases hil : i < U.length
              · obtain ⟨b1, o1, rfl, _, _, hrow⟩ := HA.out.open (by omega)
                obtain ⟨a', c', hci, _⟩ := hrow i _ (getD_some hil)
                have hl := HUr.out i hil
                obtain ⟨ll, hll⟩ : ∃ ll, (U.getD i []).length = ll := ⟨_, rfl⟩
                rw [hll] at hci hl
                have c1 := Hcur.out.cell (k := 2) (i := 0) rfl rfl
                have c2 := Hcur.out.int (k := 5) rfl ll (by rw [szs_len]; omega)
                have f2 := Hcur.out.frozen (k := 5) rfl ll
                obtain ⟨m1, m2⟩ := szs_mid (U := U) (V := V) (i := i) (j := 0) hl hUl hVl
                have HN2 := Lib.hid (Hcur.out.setInt (k := 5) rfl ll (nth (szs n U V i 0) ll + 1))
                rw [szs_up hil hll hl] at HN2
                have hbk : ∀ k, q7 ≤ k → (wr.setCell ⟨ob, ll, none⟩ (.int .i64 (nth (szs n U V i 0) ll + 1))).heap[k]? = wr.heap[k]? := fun k hk => Below.heap_setCell _ ⟨ob, ll, none⟩ _ k (fun e => by have e : k = ob := e; omega)
                have HA2 := Lib.hid (HA.out.keptB hbk)
                have HB2 := Lib.hid (HB.out.keptB hbk)
                have hmn : min (ll : Int) (n : Int) = (ll : Int) := by omega
                have d1 : decide ((ll : Int) < 0) = false := decide_eq_false (by omega)
                clear hrow hll hbk
                generalize nth (szs n U V i 0) ll = z at *
                have hz : wrap64 (z + 1) = z + 1 := wrap_mid (by omega) (by omega)
                go_wp2_with fail
                go_roundg (U.length - (i + 1))
                case measure => omega
                case rel => exact ⟨i + 1, by omega, rfl, by go_num, HA2.out, HB2.out, HN2.out⟩
              · obtain rfl : i = U.length := by omega
                go_wp2_with fail
                go_loopg [114] V.length (fun g v wr => ∃ i : Nat, i ≤ V.length ∧ g = V.length - i ∧ v = .int .i64 i ∧ OwnRows wr q7 A1 E1 U ∧ OwnRows wr q7 A2 E2 V ∧ HH w wr [(w.heap.size, rowO 5 [.int .u8 (t : Int)]), (q1, rowO 25 [.slice (some ⟨b, o, none⟩) n c]), (qn, rowO 3 [.int .i64 (n : Int)]), (qn + 1, rowO 3 [.int .i64 (k : Int)]), (qr, rowO 25 [.slice (some ⟨bA, oA, none⟩) n E]), (ob, rowO 3 (ints (szs n U V U.length i)))] (⟨some ⟨bA, oA, none⟩, E, 36, rwV bl n n⟩ :: rws bl n Z n))
                case atStart => exact ⟨0, Nat.zero_le _, rfl, rfl, HA.out, HB.out, Hcur.out⟩
                case round =>
                  obtain ⟨i, hi, rfl, rfl, ha, hb, hh⟩ := hrel
                  replace HA := Lib.hid ha
                  replace HB := Lib.hid hb
                  replace Hcur := Lib.hid hh
                  clear ha hb hh
                  by_cases hil : i < V.length
                  · obtain ⟨b1, o1, rfl, _, _, hrow⟩ := HB.out.open (by omega)
                    obtain ⟨a', c', hci, _⟩ := hrow i _ (getD_some hil)
                    have hl := HVl.out i hil
                    obtain ⟨ll, hll⟩ : ∃ ll, (V.getD i []).length = ll := ⟨_, rfl⟩
                    rw [hll] at hci hl
                    have c1 := Hcur.out.cell (k := 2) (i := 0) rfl rfl
                    have c2 := Hcur.out.int (k := 5) rfl ll (by rw [szs_len]; omega)
                    have f2 := Hcur.out.frozen (k := 5) rfl ll
                    obtain ⟨m1, m2⟩ := szs_mid (U := U) (V := V) (i := U.length) (j := i) hl hUl hVl
                    have HN2 := Lib.hid (Hcur.out.setInt (k := 5) rfl ll (nth (szs n U V U.length i) ll - 1))
                    rw [szs_dn hil hll hl] at HN2
                    have hbk : ∀ k, q7 ≤ k → (wr.setCell ⟨ob, ll, none⟩ (.int .i64 (nth (szs n U V U.length i) ll - 1))).heap[k]? = wr.heap[k]? := fun k hk => Below.heap_setCell _ ⟨ob, ll, none⟩ _ k (fun e => by have e : k = ob := e; omega)
                    have HA2 := Lib.hid (HA.out.keptB hbk)
                    have HB2 := Lib.hid (HB.out.keptB hbk)
                    have hmn : min (ll : Int) (n : Int) = (ll : Int) := by omega
                    have d1 : decide ((ll : Int) < 0) = false := decide_eq_false (by omega)
                    clear hrow hll hbk
                    generalize nth (szs n U V U.length i) ll = z at *
                    have hz : wrap64 (z - 1) = z - 1 := wrap_mid (by omega) (by omega)
                    go_wp2_with fail
                    go_roundg (V.length - (i + 1))
                    case measure => omega
                    case rel => exact ⟨i + 1, by omega, rfl, by go_num, HA2.out, HB2.out, HN2.out⟩
                  · obtain rfl : i = V.length := by omega
                    go_wp2_with fail
                    clear HA HB HUr HVl
                    go_loopg [130] (n + 1) (fun g v wr => ∃ i : Nat, i ≤ n + 1 ∧ g = n + 1 - i ∧ v = .int .i64 i ∧ HH w wr [(w.heap.size, rowO 5 [.int .u8 (t : Int)]), (q1, rowO 25 [.slice (some ⟨b, o, none⟩) n c]), (qn, rowO 3 [.int .i64 (n : Int)]), (qn + 1, rowO 3 [.int .i64 (k : Int)]), (qr, rowO 25 [.slice (some ⟨bA, oA, none⟩) n E]), (ob, rowO 3 (ints (szs n U V U.length V.length)))] (⟨some ⟨bA, oA, none⟩, E, 36, rwV bl n n⟩ :: rws bl n Z n))
                    case atStart => exact ⟨0, Nat.zero_le _, rfl, rfl, Hcur.out⟩
                    case round =>
                      obtain ⟨i, hi9, rfl, rfl, hh⟩ := hrel
                      replace Hcur := Lib.hid hh
                      clear hh
                      by_cases hil : i < n + 1
                      · have c2 := Hcur.out.int (k := 5) rfl i (by rw [szs_len]; omega)
                        rw [Hend.out i (by omega)] at c2
                        have d1 : decide ((i : Int) < (n : Int) + 1) = true := decide_eq_true (by omega)
                        go_wp2_with fail
                        go_roundg (n + 1 - (i + 1))
                        case measure => omega
                        case rel => exact ⟨i + 1, by omega, rfl, by go_num, Hcur.out⟩
                      · obtain rfl : i = n + 1 := by omega
                        have c1 := Hcur.out.cell (k := 4) (i := 0) rfl rfl
                        have e1 : (U.length : Int) = (V.length : Int) := by rw [HUV.out]
                        have e2 : ((U.length : Int) == (V.length : Int)) = true := by rw [HUV.out]; simp
                        have e3 : decide ((U.length : Int) = (V.length : Int)) = true := decide_eq_true e1
                        clear e1
                        go_wp2_with fail
                        refine (HVr.out _ _ Hcur.out).mono ?_
                        rintro e w9 ⟨rfl, hb⟩
                        have Hfin := Lib.hid (Hcur.out.call hb)
                        clear hb
                        go_wp2_with fail
                        go_ret
                        exact ⟨rfl, Hfin.out.below⟩
theorem wf_u8r {k : Int} (h : (Lit.int .u8 k).wf = true) : 0 ≤ k ∧ k ≤ 255 := by
  simp only [Lit.wf, Bool.and_eq_true, decide_eq_true_eq] at h
  have h1 : IntKind.u8.min = 0 := rfl
  have h2 : IntKind.u8.max = 255 := rfl
  rw [h1, h2] at h; exact h
theorem lren_any (T : List (List Int)) (a : Option Addr) (c : Nat) (by_ times : Int) (w : World) (hT : TabAt w a T) (hb : (Lit.int .u8 by_).wf = true) (hk : (Lit.int .u8 times).wf = true) :
    Calls Tryd.prog 6 #[.slice a T.length c, .int .u8 by_, .int .u8 times] w fun e w' => e = .returned (.bool true) ∧ Below w.heap.size w w' := by
  by_cases hs : Sml T
  · by_cases hq : Qnd T
    · obtain ⟨b, o, P, Q, C, rfl, hG⟩ := grd_of hT hq.1.1 hq.2.1
      obtain ⟨h0, h1⟩ := wf_u8r hb
      obtain ⟨h2, h3⟩ := wf_u8r hk
      obtain ⟨t, rfl⟩ : ∃ t : Nat, by_ = (t : Int) := ⟨by_.toNat, by omega⟩
      obtain ⟨m, rfl⟩ : ∃ m : Nat, times = (m : Int) := ⟨times.toNat, by omega⟩
      by_cases hg : Nat.gcd (((1 + m % T.length : Nat) : Int) % (T.length : Int)).toNat T.length = 1
      · exact lren_y1 T T.length b o P Q C c t m _ _ w rfl hs hq hG (by omega) (by omega) rfl rfl hg
      · exact lren_y0 T T.length b o P Q C c t m _ 1 _ w rfl hs hq hG (by omega) (by omega) rfl rfl hg rfl
    · exact lren_n T a c by_ times w hs hq hT
  · exact lren_s T a c by_ times w hs hT
end Go.Proofs.YtlgiponfcmeiiaaDoor
