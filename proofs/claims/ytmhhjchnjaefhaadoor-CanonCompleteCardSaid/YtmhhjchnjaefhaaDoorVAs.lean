/- The law's orders: every order of some crossings is handed to a closure, as long as it answers true. The closures of the laws CanonComplete and CanonSymmetries. -/
import Derived.WalkKit
import Derived.WalkSpells
import Derived.WalkLawsBesides
import Derived.Deep.AppendSrc
import Derived.Deep.LoopGhost
import Derived.Deep.QuietTactic
import Derived.Deep.RegionWith
import Derived.Deep.DeepMust
import Derived.Deep.DeepFit
import Derived.BigQuiet
import Derived.Lib.Hide
import Derived.Outline
import Derived.Test.YtmhhjchnjaefhaaDoorProg
import Derived.Deep.Matrix
import Derived.Deep.DeepCutAuto
import Derived.Deep.RegionLaw
import Derived.Deep.RegionHeld3
import Derived.Lib.SliceRun
import Derived.Shelf.Strings.Builder1
import Derived.Shelf.Small.Wraps
import Derived.Shelf.Strings.BuilderF
import Derived.Shelf.Strings.BuilderK
import Derived.Shelf.Strconv.Itoa0
import Derived.Shelf.Strconv.Itoa1
import Derived.Shelf.LaysM
import Derived.Shelf.Strconv.Itoa2
import Derived.Shelf.Strconv.Itoa3
import Derived.Shelf.Slices.Equal
import Derived.Ground.Names2Prog
import Derived.Shelf.Slices.Clone
import Derived.Shelf.Slices.SearchI
import Derived.Shelf.Slices.Empties2
import Derived.Ground.SlgnProg
import Derived.Shelf.SlicesE.Clone
import Derived.Sort.OwnSortedInts
import Derived.Shelf.Small.Bits
import Derived.Shelf.Sort.Plain
import Derived.Shelf.Slices.Turned
import Derived.Shelf.Slices.CompactI
import Derived.Shelf.Slices.Cells
import Derived.Shelf.Slices.In.SortNone
import Derived.Lib.AppendZeros
import Derived.Deep.RegionHeld
import Derived.Lib.Builder
import Derived.Lib.AppendStr
import Derived.Lib.Walk
import Derived.Laws.Externs
import Derived.Lib.AppendIntMem
import Derived.Test.YtmhhjchnjaefhaaDoorVAa
import Derived.Test.YtmhhjchnjaefhaaDoorVAb
import Derived.Test.YtmhhjchnjaefhaaDoorVAc
import Derived.Test.YtmhhjchnjaefhaaDoorVAd
import Derived.Test.YtmhhjchnjaefhaaDoorVAe
import Derived.Test.YtmhhjchnjaefhaaDoorVAf
import Derived.Test.YtmhhjchnjaefhaaDoorVAg
import Derived.Test.YtmhhjchnjaefhaaDoorVAh
import Derived.Test.YtmhhjchnjaefhaaDoorVAi
import Derived.Test.YtmhhjchnjaefhaaDoorVAj
import Derived.Test.YtmhhjchnjaefhaaDoorVAk
import Derived.Test.YtmhhjchnjaefhaaDoorVAl
import Derived.Test.YtmhhjchnjaefhaaDoorVAm
import Derived.Test.YtmhhjchnjaefhaaDoorVAn
import Derived.Test.YtmhhjchnjaefhaaDoorVAo
import Derived.Test.YtmhhjchnjaefhaaDoorVAp
import Derived.Test.YtmhhjchnjaefhaaDoorVAq
import Derived.Test.YtmhhjchnjaefhaaDoorVAr
namespace Go.Proofs.YtmhhjchnjaefhaaDoor
open Go Go.RowKit
theorem Kp.join {b : Nat} {w w1 w2 : World} (h : Kp w.heap.size b w w1) (k : Kp w1.heap.size b w1 w2) : Kp w.heap.size b w w2 :=
  h.trans ⟨k.os, k.tape, k.output, k.size, fun i hi hb => k.block i (by have := h.size; omega) hb⟩
theorem Kp.of {b : Nat} {w w1 : World} (h : Below w.heap.size w w1) : Kp w.heap.size b w w1 := (Kp.refl _ _ _).below h (Nat.le_refl _)
theorem IntsAt.kp {w w' : World} {a : Option Addr} {xs : List Int} {b : Nat} (h : IntsAt w a xs) (hb : ∀ x, a = some x → x.block ≠ b) (k : Kp w.heap.size b w w') : IntsAt w' a xs := fun i v hv => by
  obtain ⟨c, off, e, hc⟩ := h i v hv
  refine ⟨c, off, e, ?_⟩
  have hl := World.block_lt_of_cell? _ _ hc
  rw [World.cell?_of_block (w := w) (w' := w') (a := ⟨c, off + i, none⟩) (k.block c hl (hb _ e))]
  exact hc
section
variable {ops : Array Oper} {Q : Exit → Act → World → Prop} {o : Oper} {rest : List Oper} {a : Act} {w : World}
/-- An append of numbers at an operation that is wanted. -/
theorem wpList_appW (hw : Region.wanted o (yielded ops a.tmps) = true) (s x : Operand) (hop : o.op = .call { callee := .builtin .append, args := #[s, x], argTypes := #[22, 22] })
    (B : Nat) (A : Option Addr) (n c : Nat) (xs : List Int) (hs : a.eval s = .slice A n c) (hn : xs.length = n) (hown : Own w B 3 A c (ints xs)) (ax : Option Addr) (m cx : Nat) (ys : List Int) (hx : a.eval x = .slice ax m cx) (hm : ys.length = m) (hus : IntsAt w ax ys) (hl : n + m ≤ 1000000) (hB : B ≤ w.heap.size) (r : Nat) (hr : n + m = r)
    (hK : ∀ A' c' w', Own w' B 3 A' c' (ints (xs ++ ys)) → Turned w w' A → (∀ x, A' = some x → (w.heap.size ≤ x.block ∨ ∃ y, A = some y ∧ x = y)) → wpList Tryd.prog ops Q rest (a.put o.dst (.slice A' r c')) w') :
    wpList Tryd.prog ops Q (o :: rest) a w := by
  subst hn; subst hm; subst hr
  obtain ⟨A', c', w', hrun, r1, r2, r3⟩ := run_app w B o.type A c xs hown ax cx ys hus hl hB
  refine wpList_step fun K hK' => ?_
  rw [if_pos hw]
  unfold Oper.wp
  simp [execOp, hop, resolve, invoke, builtin, hs, hx, hrun, Result.andThen]
  exact hK' _ _ (hK A' c' w' r1 r2 r3)
end
abbrev fnC (qa qb b : Nat) : Value := .func (.func 23) #[] #[.pointer (some ⟨qa, 0, none⟩), .pointer (some ⟨qb, 0, none⟩), .pointer (some ⟨b, 0, none⟩)]
/-- What the closure does with an order. -/
def VisC (w0 : World) (n : Nat) (KN : Bool → Kn) (qa qb b : Nat) (f : Bool → List Nat → Bool × Bool) : Prop :=
  ∀ (s : Bool) (l : List Nat) (a : Option Addr) (c : Nat) (w : World), l.Perm (List.range n) → HH w0 w (KN s) [] → IntsAt w a (nats l) →
    Calls Tryd.prog 23 #[.slice a l.length c, .pointer (some ⟨qa, 0, none⟩), .pointer (some ⟨qb, 0, none⟩), .pointer (some ⟨b, 0, none⟩)] w fun e w' => e = .returned (.bool (f s l).2) ∧ HH w0 w' (KN (f s l).1) [] ∧ Kp w.heap.size b w w'
def OrdsC (w0 : World) (n : Nat) (KN : Bool → Kn) (qa qb b : Nat) (f : Bool → List Nat → Bool × Bool) (k : Nat) : Prop :=
  ∀ (s : Bool) (l : List Nat) (a : Option Addr) (c : Nat) (w : World), HH w0 w (KN s) [] → l.Nodup → (∀ x, x ∈ l → x < n) → l.length + k = n → IntsAt w a (nats l) → (∀ x, a = some x → x.block ≠ b) →
    Calls Tryd.prog 19 #[.int .i64 (n : Int), .slice a l.length c, fnC qa qb b] w fun e w' => e = .returned (.bool (runX n f k l s).2) ∧ HH w0 w' (KN (runX n f k l s).1) [] ∧ Kp w.heap.size b w w'
set_option maxRecDepth 100000 in
set_option maxHeartbeats 4000000 in
theorem ordsC_any (w0 : World) (n : Nat) (KN : Bool → Kn) (qa qb b : Nat) (f : Bool → List Nat → Bool × Bool) (hn : n ≤ 5) (hb : ∀ s, ∃ R, (b, R) ∈ KN s) (HV : VisC w0 n KN qa qb b f) : ∀ k, OrdsC w0 n KN qa qb b f k := by
  intro k
  induction k with
  | zero =>
    intro s l a c w hh hnd hlt hl hI _
    have HV1 := Lib.hid (HV s l a c w (nodup_perm_range hnd hlt (by omega)) hh hI)
    have t1 : ((l.length : Int) == (n : Int)) = true := by rw [show l.length = n by omega]; exact beq_self_eq_true _
    have t2 : (l.length == n) = true := by rw [show l.length = n by omega]; exact beq_self_eq_true _
    have HX : Hid (runX n f 0 l s = f s l) := Lib.hid rfl
    rw [HX.out]
    clear HV hb hh hnd hlt hl hI HX
    generalize l.length = q at *
    go_enter Tryd.func19, Tryd.ntmps19
    go_wp2_with fail
    refine HV1.out.mono ?_
    rintro e w1 ⟨rfl, h1, h2⟩
    have H1 := Lib.hid (And.intro h1 h2)
    clear h1 h2
    go_wp2_with fail
    go_ret
    exact ⟨rfl, H1.out⟩
  | succ k ih =>
    intro s l a c w hh hnd hlt hl hI hab
    have t1 : ((l.length : Int) == (n : Int)) = false := by rw [beq_eq_false_iff_ne]; omega
    have t2 : (l.length == n) = false := by rw [beq_eq_false_iff_ne]; omega
    have Ih := Lib.hid ih
    have HAB := Lib.hid hab
    have HI := Lib.hid hI
    have Hnd := Lib.hid (And.intro hnd hlt)
    have Hlk := Lib.hid hl
    have HB := Lib.hid hb
    have H0 := Lib.hid hh
    have HX : Hid (runX n f (k + 1) l s = runTo n f k l s n) := Lib.hid rfl
    rw [HX.out]
    have hq5 : l.length ≤ 5 := by omega
    have HLn := Lib.hid (rfl : l.length = l.length)
    clear HV hb hh hnd hlt hl hI ih hab HX
    obtain ⟨q, hq⟩ : ∃ q, q = l.length := ⟨_, rfl⟩
    have Hq := Lib.hid hq
    rw [← hq] at t1 t2 hq5 ⊢
    clear hq HLn
    go_enter Tryd.func19, Tryd.ntmps19
    go_wp2_with fail
    go_loopg [16] n (fun g v wr => ∃ (i : Nat) (s' : Bool), i ≤ n ∧ g = n - i ∧ v = .int .i64 (i : Int) ∧ Hid (runTo n f k l s i = (s', true)) ∧ Hid (HH w0 wr (KN s') []) ∧ Hid (Kp w.heap.size b w wr))
    case atStart => exact ⟨0, s, Nat.zero_le _, rfl, rfl, Lib.hid rfl, Lib.hid H0.out, Lib.hid (Kp.refl _ _ _)⟩
    case round =>
      obtain ⟨i, s', hi, rfl, rfl, Hrn, Hh, Hk⟩ := hrel
      clear H0
      by_cases hil : i < n
      · have HIr := Lib.hid (HI.out.kp HAB.out Hk.out)
        have Hin := Lib.hid (in_nats a c l i wr (by have := Hq.out; omega) HIr.out)
        rw [← Hq.out] at Hin
        by_cases hin : i ∈ l
        · have Hr2 := Lib.hid (runTo_in n f Hrn.out hin)
          rw [decide_eq_true hin] at Hin
          clear hin HIr
          go_wp2_with fail
          refine Hin.out.mono ?_
          rintro e w1 ⟨rfl, hw1⟩
          subst hw1
          go_wp2_with fail
          go_roundg (n - (i + 1))
          case measure => omega
          case rel => exact ⟨i + 1, s', by omega, rfl, by go_num, Lib.hid Hr2.out, Lib.hid Hh.out, Lib.hid Hk.out⟩
        · obtain ⟨s2, b2, hr⟩ : ∃ s2 b2, runX n f k (l ++ [i]) s' = (s2, b2) := ⟨_, _, rfl⟩
          have Hr2 := Lib.hid ((runTo_out n f Hrn.out hin).trans hr)
          have hbw : b < wr.heap.size := by
            obtain ⟨R, hR⟩ := HB.out s'
            exact Hh.out.lt hR
          have HR : Hid (∀ (a : Option Addr) (c : Nat) (w' : World), Below wr.heap.size wr w' → IntsAt w' a (nats (l ++ [i])) → (∀ x, a = some x → wr.heap.size ≤ x.block) → Calls Tryd.prog 19 #[.int .i64 (n : Int), .slice a (q + 1) c, fnC qa qb b] w' fun e w'' => e = .returned (.bool b2) ∧ Hid (HH w0 w'' (KN s2) []) ∧ Hid (Kp w.heap.size b w w'')) := Lib.hid fun a c w' h1 h2 h3 => by
            have hlk := Hlk.out
            have g := Ih.out s' (l ++ [i]) a c w' (Hh.out.call h1) (List.nodup_append.2 ⟨Hnd.out.1, by simp, fun x hx y hy e => by
              rw [List.mem_singleton] at hy; subst hy; subst e; exact hin hx⟩) (fun x hx => by
              rcases List.mem_append.1 hx with g | g
              · exact Hnd.out.2 x g
              · rw [List.mem_singleton] at g; subst g; exact hil) (by rw [List.length_append, List.length_singleton]; omega) h2 (fun x hx => by have := h3 x hx; omega)
            rw [hr, List.length_append, List.length_singleton, ← Hq.out] at g
            refine g.mono ?_
            rintro e w'' ⟨e1, e2, e3⟩
            exact ⟨e1, Lib.hid e2, Lib.hid ((Hk.out.below h1 Hk.out.size).join e3)⟩
          rw [decide_eq_false hin] at Hin
          clear hin hr hbw
          have J0 : Hid (HH wr (wr.alloc (.cells #[] 3)) [] [⟨some ⟨wr.heap.size, 0, none⟩, 0, 3, ints []⟩]) := Lib.hid ((HH.start wr).addSl ((Below.refl _ _).alloc (Nat.le_refl _) _) (Own.made #[] (Nat.le_refl _)))
          have HI0 := Lib.hid (HIr.out.later J0.out.below)
          have Hnl : Hid ((nats l).length = q) := Lib.hid (by rw [nats_length]; exact Hq.out.symm)
          have Hz1 := Lib.hid J0.out.below.size
          go_wp2_with fail
          refine Hin.out.mono ?_
          rintro e w1 ⟨rfl, hw1⟩
          subst hw1
          go_wp2_with (first
            | ((with_reducible refine wpList_appW ?_ (.tmp 25) (.tmp 26) rfl w1.heap.size (some ⟨w1.heap.size, 0, none⟩) 0 0 [] rfl rfl (J0.out.sl (k := 0) rfl) a q c (nats l) rfl Hnl.out HI0.out (by omega) Hz1.out q (Nat.zero_add _) ?_)
               · rfl
               intro A7 c7 w7 hO7 hT7 hA7
               have H7 := Lib.hid (J0.out.grow (k := 0) rfl hO7 hT7 hA7)
               clear hO7 hT7 hA7
               have H8 := Lib.hid (H7.out.call ((Below.refl _ _).alloc (Nat.le_refl _) (.cells #[.int .i64 (i : Int)] 3)))
               have HC8 : Hid (IntsAt (w7.alloc (.cells #[.int .i64 (i : Int)] 3)) (some ⟨w7.heap.size, 0, none⟩) [(i : Int)]) := Lib.hid ((Row.new w7 #[.int .i64 (i : Int)] 3).own (B := 0) (Nat.zero_le _)).ints
               have Hz2 := Lib.hid H8.out.below.size)
            | ((with_reducible refine wpList_appW ?_ (.tmp 27) (.tmp 29) rfl w1.heap.size A7 q c7 ([] ++ nats l) rfl Hnl.out (H8.out.sl (k := 0) rfl) (some ⟨w7.heap.size, 0, none⟩) 1 1 [(i : Int)] rfl rfl HC8.out (by omega) Hz2.out (q + 1) rfl ?_)
               · rfl
               intro A9 c9 w9 hO9 hT9 hA9
               have H9 := Lib.hid (H8.out.grow (k := 0) rfl hO9 hT9 hA9)
               clear hO9 hT9 hA9))
          have N9 : Hid (IntsAt w9 A9 (nats (l ++ [i])) ∧ (∀ x, A9 = some x → w1.heap.size ≤ x.block) ∧ Below w1.heap.size w1 w9) := Lib.hid ⟨by
            have := (H9.out.sl (k := 0) rfl).ints
            rw [List.nil_append, nats_snoc] at this
            exact this, fun x hx => ((H9.out.sl (k := 0) rfl).lt hx).1, H9.out.below⟩
          refine (HR.out A9 c9 w9 N9.out.2.2 N9.out.1 N9.out.2.1).mono ?_
          rintro e w10 ⟨rfl, Hh2, Hk2⟩
          clear H9 N9 H8 HC8 Hz2 H7 J0 HI0 Hz1 Hin HIr
          cases b2
          · have HE := Lib.hid (runTo_stop n f Hr2.out (n - (i + 1)))
            have HE2 : Hid (runTo n f k l s n = (s2, false)) := Lib.hid (by
              have := HE.out
              rwa [show i + 1 + (n - (i + 1)) = n by omega] at this)
            clear HE
            go_wp2_with fail
            go_ret
            rw [HE2.out]
            exact ⟨rfl, Hh2.out, Hk2.out⟩
          · go_wp2_with fail
            go_roundg (n - (i + 1))
            case measure => omega
            case rel => exact ⟨i + 1, s2, by omega, rfl, by go_num, Lib.hid Hr2.out, Lib.hid Hh2.out, Lib.hid Hk2.out⟩
      · obtain rfl : i = n := by omega
        go_wp2_with fail
        go_ret
        rw [Hrn.out]
        exact ⟨rfl, Hh.out, Hk.out⟩
end Go.Proofs.YtmhhjchnjaefhaaDoor

namespace Go.Proofs.YtmhhjchnjaefhaaDoor
open Go Go.RowKit
set_option maxRecDepth 100000 in
set_option maxHeartbeats 2000000 in
theorem visC_any (S M : List Int) (L : Int) (aS aM : Option Addr) (cS cM : Nat) (T N : List Int) (K : Int) (bS bM : Option Addr) (dS dM : Nat) (qa qb b : Nat) (w0 : World) (hv : vldB S M L = true) (hS : IntsAt w0 aS S) (hM : IntsAt w0 aM M) (hT : IntsAt w0 bS T) (hN : IntsAt w0 bM N) :
    VisC w0 S.length (fun s : Bool => [(qa, rowO 24 [.slice aS S.length cS, .slice aM M.length cM, .int .i64 L]), (qb, rowO 24 [.slice bS T.length dS, .slice bM N.length dM, .int .i64 K]), (b, rowO 4 [.bool s])]) qa qb b (fun _ o => (eqD (partS S o) (partM M o) L T N K, !eqD (partS S o) (partM M o) L T N K)) := by
  intro s l a c w hl hh hI
  have hs := vldB_shape hv
  have hfw := hs.few
  have hMl := hs.len
  have hll := perm_len hl
  have H0 := Lib.hid hh
  have HR : Hid (Calls Tryd.prog 21 #[.agg #[.slice aS S.length cS, .slice aM M.length cM, .int .i64 L], .slice a l.length c] w fun e w' => ∃ a b c d, e = .returned (.tuple #[.agg #[.slice a S.length c, .slice b M.length d, .int .i64 L], .int .i64 0]) ∧ IntsAt w' a (partS S l) ∧ IntsAt w' b (partM M l) ∧ Below w.heap.size w w') := Lib.hid (by
    have g := renum_yes S M L aS aM cS cM a c l w hv hl (hS.later hh.below) (hM.later hh.below) hI
    rw [nats_length] at g
    exact g.mono fun e w' ⟨a, b, c, d, e1, e2, e3, e4⟩ => ⟨a, b, c, d, e1, e2.ints, e3.ints, e4⟩)
  have HE : Hid (∀ (a b : Option Addr) (c d : Nat) W', Below w0.heap.size w0 W' → IntsAt W' a (partS S l) → IntsAt W' b (partM M l) → Calls Tryd.prog 22 #[.agg #[.slice a S.length c, .slice b M.length d, .int .i64 L], .agg #[.slice bS T.length dS, .slice bM N.length dM, .int .i64 K]] W' fun e w' => e = .returned (.bool (eqD (partS S l) (partM M l) L T N K)) ∧ Below W'.heap.size W' w') := Lib.hid fun a b c d W' h h1 h2 => by
    have l1 : (partS S l).length = S.length := by rw [partS_len, hll]
    have l2 : (partM M l).length = M.length := by rw [partM_len, hll, hMl]
    have g := equalD_any (partS S l) (partM M l) T N L K a b bS bM c d dS dM W' (by omega) (by omega) h1 h2 (hT.later h) (hN.later h)
    rw [l1, l2] at g
    exact g
  clear hs hv hS hM hT hN hI hl hll hMl hh
  dsimp only
  generalize eqD (partS S l) (partM M l) L T N K = r at *
  generalize partS S l = PS at *
  generalize partM M l = PM at *
  generalize l.length = q at *
  generalize S.length = n at *
  generalize M.length = N1 at *
  generalize T.length = n2 at *
  generalize N.length = N2 at *
  go_enter Tryd.func23, Tryd.ntmps23
  have k0 := H0.out.cell (k := 0) (i := 0) rfl rfl
  have k1 := H0.out.cell (k := 0) (i := 1) rfl rfl
  have k2 := H0.out.cell (k := 0) (i := 2) rfl rfl
  go_wp2_with fail
  clear k0 k1 k2
  refine HR.out.mono ?_
  rintro e w1 ⟨a1, b1, c1, d1, rfl, n1, n2', hb⟩
  have H1 := Lib.hid ((H0.out.call hb).alloc #[.slice a1 n c1, .slice b1 N1 d1, .int .i64 L] 24 (b := w1.heap.size) rfl rfl)
  have Hs : Hid (Below w1.heap.size w1 (w1.alloc (.cells #[.slice a1 n c1, .slice b1 N1 d1, .int .i64 L] 24))) := Lib.hid ((Below.refl _ _).alloc (Nat.le_refl _) _)
  have N3 := Lib.hid (And.intro (n1.later Hs.out) (n2'.later Hs.out))
  have B1 := Lib.hid (hb.trans (Hs.out.mono hb.size))
  clear n1 n2' hb Hs HR H0
  go_upto_region 2 with fail
  generalize w1.alloc (.cells #[.slice a1 n c1, .slice b1 N1 d1, .int .i64 L] 24) = v1 at *
  generalize w1.heap.size = q1 at *
  have k0 := H1.out.cell (k := 3) (i := 0) rfl rfl
  have k1 := H1.out.cell (k := 3) (i := 1) rfl rfl
  have k2 := H1.out.cell (k := 3) (i := 2) rfl rfl
  have j0 := H1.out.cell (k := 1) (i := 0) rfl rfl
  have j1 := H1.out.cell (k := 1) (i := 1) rfl rfl
  have j2 := H1.out.cell (k := 1) (i := 2) rfl rfl
  go_wp2_with fail
  clear k0 k1 k2 j0 j1 j2
  refine (HE.out a1 b1 c1 d1 v1 H1.out.below N3.out.1 N3.out.2).mono ?_
  rintro e w2 ⟨rfl, hb⟩
  have H2 := Lib.hid (H1.out.call hb)
  have B2 := Lib.hid (B1.out.trans (hb.mono B1.out.size))
  clear hb H1 B1 N3
  have kb := H2.out.cell (k := 2) (i := 0) rfl rfl
  have kf := H2.out.frozen (k := 2) rfl 0
  have H3 := Lib.hid (H2.out.set (k := 2) rfl 0 (.bool r))
  have kc := H3.out.cell (k := 2) (i := 0) rfl rfl
  clear H2
  go_wp2_with fail
  go_ret
  exact ⟨rfl, H3.out.forgetK (.cons_cons _ (.cons_cons _ (.cons_cons _ (List.nil_sublist _)))), (Kp.of B2.out).set 0 _⟩
end Go.Proofs.YtmhhjchnjaefhaaDoor

