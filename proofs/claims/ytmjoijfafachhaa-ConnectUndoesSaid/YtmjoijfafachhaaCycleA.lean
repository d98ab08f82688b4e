/- The walks of diagram.cycle and cycles. -/
import Derived.Test.YtmjoijfafachhaaProg
import Derived.Test.YtmjoijfafachhaaPlainA
import Derived.Test.YtmjoijfafachhaaLabelW
namespace Go.Proofs.Ytmjoijfafachhaa
open Go Go.RowKit
/-! ### The walk of diagram.cycle, for whatever successor function. -/
/-- A function value that, in every world behind w, takes each number below N to f of it, and leaves the old blocks alone. -/
def NatFn (w : World) (F : FuncId) (cap : Array Value) (N : Nat) (f : Nat → Nat) : Prop :=
  ∀ (W : World) (x : Nat), Below w.heap.size w W → x < N → Calls Try.prog F (#[.int .i64 (x : Int)] ++ cap) W fun e w' => e = .returned (.int .i64 ((f x : Nat) : Int)) ∧ Below W.heap.size W w'
set_option maxRecDepth 100000 in
set_option maxHeartbeats 1000000 in
theorem cycle_any (F : FuncId) (cap : Array Value) (N : Nat) (f : Nat → Nat) (w : World) (s p : Nat) (hcall : ∀ args W, (callFunc F args).run Try.prog W = .ok (.enter F args) W)
    (hnx : NatFn w F cap N f) (hf : ∀ x, x < N → f x < N) (hs : s < N) (hp : IsPer f s p) (hpb : p ≤ 1000000) :
    Calls Try.prog 88 #[.int .i64 (s : Int), .func (.func F) #[] cap] w fun e w' => ∃ a c, e = .returned (.slice a p c) ∧ Below w.heap.size w w' ∧ Own w' w.heap.size 3 a c (ints (nats (orb f s p))) := by
  obtain ⟨i0, hi, hz0, hz1, hz2⟩ := info_parts Try.info3
  have Hf := Lib.hid hf; clear hf
  have Hp := Lib.hid hp; clear hp
  have Hnx := Lib.hid hnx; clear hnx
  go_enter Try.func88, Try.ntmps88
  go_wp2_with fail
  refine (Hnx.out _ s ((Below.refl _ _).alloc (Nat.le_refl _) _) hs).mono ?_
  rintro e w1 ⟨rfl, hb1⟩
  go_wp2_with fail
  go_loopg [6, 5] (p - 1) (fun g hv lv wr => ∃ (k : Nat) (A : Option Addr) (c : Nat), 0 < k ∧ k ≤ p ∧ g = p - k ∧ hv = .int .i64 ((iter f k s : Nat) : Int) ∧ lv = .slice A k c ∧ Own wr w.heap.size 3 A c (ints (nats (orb f s k))) ∧ Below w.heap.size w wr)
  case atStart =>
    refine ⟨1, some ⟨w.heap.size, 0, none⟩, 1, by omega, Hp.out.1, rfl, rfl, rfl, ?_, ?_⟩
    · have h1 := (Own.made (w := w) (B := w.heap.size) (E := 3) #[Value.int .i64 (s : Int)] (Nat.le_refl _)).later hb1 (Nat.le_refl _)
      simpa [ints, nats, orb, iter] using h1
    · exact below_of ((Below.refl _ _).alloc (Nat.le_refl _) _) hb1 (by simp)
  case round =>
    obtain ⟨k, A, c, hk0, hkp, rfl, rfl, rfl, hown, hb⟩ := hrel
    clear hb1
    have hsz := hb.size
    by_cases hlt : k < p
    · have hne := Hp.out.2.2 k hk0 hlt
      have hx := iter_lt f N Hf.out k s hs
      have ht : (((iter f k s : Nat) : Int) != (s : Int)) = true := by simp; omega
      have Hown := Lib.hid hown; clear hown
      have Hne := Lib.hid hne; clear hne
      have hlen : (ints (nats (orb f s k))).length = k := by rw [ints_length, nats_length, orb_length]
      have Hlen := Lib.hid hlen; clear hlen
      have Hsn : Hid (ints (nats (orb f s k)) ++ [.int .i64 ((iter f k s : Nat) : Int)] = ints (nats (orb f s (k + 1)))) := Lib.hid (by rw [ints_snoc, nats_snoc, orb_succ])
      have Hcell : Hid ((wr.alloc (.cells #[.int .i64 ((iter f k s : Nat) : Int)] 3)).cell? ⟨wr.heap.size, 0, none⟩ = some (.int .i64 ((iter f k s : Nat) : Int))) := Lib.hid (by simp)
      have Hit : Hid (iter f (k + 1) s = f (iter f k s)) := Lib.hid (iter_succ f k s)
      generalize iter f k s = x at *
      go_wp2_with (with_reducible refine wpList_append_one rfl (.tmp 18) (.tmp 20) 22 rfl w.heap.size 3 i0 (.int .i64 0) 8 Try.underlying22 hi hz0 hz1 hz2 rfl A k c _ rfl Hlen.out (Hown.out.alloc _) _ 1 (.int .i64 (x : Int)) rfl Hcell.out rfl (by omega) (by omega) (by simp; omega) ?_; intro A2 c2 w2 hO2 hT2 hA2)
      have hb2 : Below w.heap.size w w2 := (hb.alloc hsz _).trans (hT2.below (by simp; omega) (fun y hy => (Hown.out.lt hy).1))
      refine (Hnx.out _ x hb2 hx).mono ?_
      rintro e w3 ⟨rfl, hb3⟩
      go_wp2_with fail
      go_roundg (p - (k + 1))
      case measure => omega
      case rel =>
        refine ⟨k + 1, A2, c2, by omega, by omega, rfl, by rw [Hit.out], rfl, ?_, below_of hb2 hb3 (by have := hb2.size; omega)⟩
        rw [← Hsn.out]
        exact hO2.later hb3 (Nat.le_refl _)
    · obtain rfl : k = p := by omega
      have he := Hp.out.2.1
      have ht : (((iter f k s : Nat) : Int) != (s : Int)) = false := by rw [he]; simp
      have Hown := Lib.hid hown; clear hown he
      go_wp2_with fail
      go_ret
      exact ⟨A, c, rfl, hb, Hown.out⟩
/-! ### The walk of diagram.cycles, for whatever successor function and choice. -/
theorem NatFn.later {w W : World} {F : FuncId} {cap : Array Value} {N : Nat} {f : Nat → Nat} (h : NatFn w F cap N f) (hb : Below w.heap.size w W) : NatFn W F cap N f :=
  fun W' x hb' hx => h W' x (below_step hb hb') hx
/-- A function value that, in every world behind w, says wb x of each number below N, and leaves the old blocks alone. -/
def BoolFn (w : World) (F : FuncId) (cap : Array Value) (N : Nat) (wb : Nat → Bool) : Prop :=
  ∀ (W : World) (x : Nat), Below w.heap.size w W → x < N → Calls Try.prog F (#[.int .i64 (x : Int)] ++ cap) W fun e w' => e = .returned (.bool (wb x)) ∧ Below W.heap.size W w'
theorem Try.info22 : (Try.prog.info? 22).map (fun i => (i.zero, i.size, i.bytes)) = some (some (.slice none 0 0), 1, 24) := by kernel_rfl
theorem Try.info4 : (Try.prog.info? 4).map (fun i => (i.zero, i.size, i.bytes)) = some (some (.bool false), 1, 1) := by kernel_rfl
set_option maxRecDepth 100000 in
set_option maxHeartbeats 2000000 in
theorem cycles_any (F G : FuncId) (capF capG : Array Value) (N : Nat) (f per : Nat → Nat) (wb : Nat → Bool) (w : World) (hN : N ≤ 1000000)
    (hcF : ∀ args W, (callFunc F args).run Try.prog W = .ok (.enter F args) W) (hcG : ∀ args W, (callFunc G args).run Try.prog W = .ok (.enter G args) W)
    (hnx : NatFn w F capF N f) (hwb : BoolFn w G capG N wb) (hf : ∀ x, x < N → f x < N) (hp : ∀ x, x < N → IsPer f x (per x)) (hpb : ∀ x, x < N → per x ≤ 1000000) :
    Calls Try.prog 77 #[.int .i64 (N : Int), .func (.func G) #[] capG, .func (.func F) #[] capF] w fun e w' => ∃ a c, e = .returned (.slice a (cycs f per wb N).length c) ∧ Below w.heap.size w w' ∧ OwnRows w' w.heap.size a c ((cycs f per wb N).map nats) := by
  obtain ⟨i0, hi, hz0, hz1, hz2⟩ := info_parts Try.info4
  obtain ⟨i1, hi1, hy0, hy1, hy2⟩ := info_parts Try.info22
  have Hf := Lib.hid hf; clear hf
  have Hp := Lib.hid hp; clear hp
  have Hpb := Lib.hid hpb; clear hpb
  have Hnx := Lib.hid hnx; clear hnx
  have Hwb := Lib.hid hwb; clear hwb
  have HcF := Lib.hid hcF; clear hcF
  go_enter Try.func77, Try.ntmps77
  go_wp2_with (with_reducible refine wpList_make_one rfl (.tmp 13) 68 rfl 4 i0 (.bool false) 1 Try.underlying68 hi hz0 hz1 hz2 rfl .i64 _ N rfl rfl (by omega) (by omega) ?_)
  go_loopg [16, 7] N (fun g i av wr => ∃ (k : Nat) (A : Option Addr) (c : Nat), k ≤ N ∧ g = N - k ∧ i = .int .i64 k ∧ av = .slice A (cyTo f per wb N k).2.length c ∧ OwnRows wr (w.heap.size + 1) A c ((cyTo f per wb N k).2.map nats) ∧ Row wr w.heap.size 4 (bools (cyTo f per wb N k).1) ∧ Below w.heap.size w wr)
  case atStart =>
    refine ⟨0, none, 0, Nat.zero_le _, rfl, rfl, rfl, OwnRows.nil _ _, ?_, (Below.refl _ _).alloc (Nat.le_refl _) _⟩
    have := Row.new w (Array.replicate N (Value.bool false)) 4
    simpa [bools, cyTo] using this
  case round =>
    obtain ⟨k, A, c, hk, rfl, rfl, rfl, hown, hrow, hb⟩ := hrel
    have hl1 := cyTo_len1 f per wb N k
    have hl2 := cyTo_len2 f per wb N k
    have hsz := hrow.lt
    generalize hst : cyTo f per wb N k = st at *
    have Hst := Lib.hid hst; clear hst
    by_cases hlt : k < N
    · have hc := hrow.bool k (by omega)
      by_cases hseen : bth st.1 k = true
      · have HE : Hid (cyTo f per wb N (k + 1) = st) := Lib.hid (by rw [cyTo, Hst.out, cyRound, if_pos hseen])
        rw [hseen] at hc
        have Hown := Lib.hid hown; clear hown
        have Hrow := Lib.hid hrow; clear hrow hseen
        go_wp2_with fail
        go_roundg (N - (k + 1))
        case measure => omega
        case rel => exact ⟨k + 1, A, c, by omega, rfl, by go_num, by rw [HE.out], by rw [HE.out]; exact Hown.out, by rw [HE.out]; exact Hrow.out, hb⟩
      · have hs2 : bth st.1 k = false := by simpa using hseen
        rw [hs2] at hc
        have Hown := Lib.hid hown; clear hown
        have Hrow := Lib.hid hrow; clear hrow
        by_cases hw : wb k = true
        · have HE : Hid (cyTo f per wb N (k + 1) = (markL (orb f k (per k)) st.1, st.2 ++ [orb f k (per k)])) := Lib.hid (by rw [cyTo, Hst.out, cyRound, if_neg hseen, if_pos hw])
          have hper := Hp.out k hlt
          have hpb := Hpb.out k hlt
          clear hseen hs2
          go_wp2_with fail
          refine (Hwb.out _ k hb hlt).mono ?_
          rintro e w1 ⟨rfl, hb1⟩
          rw [hw]
          clear hw
          have hb1' := below_step hb hb1
          go_wp2_with fail
          refine (cycle_any F capF N f w1 k (per k) HcF.out (Hnx.out.later hb1') Hf.out hlt hper hpb).mono ?_
          rintro e w2 ⟨A2, c2, rfl, hb2, hO2⟩
          have hb2' := below_step hb1' hb2
          have Hrow2 := Lib.hid ((Hrow.out.later hb1 hsz).later hb2 (by have := hb1.size; omega))
          have Hown2 := Lib.hid ((Hown.out.later hb1 (Nat.le_refl _)).later hb2 (Nat.le_refl _))
          have HO2 := Lib.hid (hO2.mono (B' := w.heap.size + 1) (by have := hb1.size; omega)); clear hO2 Hrow Hown
          have hz3 := hb1.size
          have hz4 := hb2.size
          clear hb hb1 hb1' hc
          go_wp2_with fail
          go_loopg [34] (per k) (fun g i wi => ∃ j : Nat, j ≤ per k ∧ g = per k - j ∧ i = .int .i64 j ∧ Own wi (w.heap.size + 1) 3 A2 c2 (ints (nats (orb f k (per k)))) ∧ OwnRows wi (w.heap.size + 1) A c (st.2.map nats) ∧ Row wi w.heap.size 4 (bools (markL (orb f k j) st.1)) ∧ Below w.heap.size w wi)
          case atStart => exact ⟨0, Nat.zero_le _, rfl, rfl, HO2.out, Hown2.out, Hrow2.out, hb2'⟩
          case round =>
            clear hb2' Hrow2 Hown2 HO2 hb2
            obtain ⟨j, hj, rfl, rfl, hO, hR, hrow, hb⟩ := hrel
            have hlen : (orb f k (per k)).length = per k := orb_length _ _ _
            by_cases hjl : j < per k
            · obtain ⟨b, off, rfl, hB, hbl, hcell, _⟩ := hO.open (by rw [ints_length, nats_length, hlen]; omega)
              have hcj := hcell j _ (ints_get _ _ (by rw [nats_length, hlen]; exact hjl))
              rw [nth_nats _ _ (by rw [hlen]; exact hjl), orb_getD _ _ _ _ hjl] at hcj
              have hx := iter_lt f N Hf.out j k hlt
              have Hm : Hid (markL (orb f k (j + 1)) st.1 = (markL (orb f k j) st.1).set (iter f j k) true) := Lib.hid (by rw [orb_succ, markL_snoc])
              generalize iter f j k = x at *
              have hcx := hrow.bool x (by rw [markL_length]; omega)
              have hfx := hrow.frozen x
              have HO := Lib.hid (hO.setOther hrow (by decide) x (.bool true))
              have HR := Lib.hid (hR.setOther hrow (by decide) (by decide) x (.bool true))
              have Hrow := Lib.hid (hrow.setBool x true)
              clear hO hR hrow hcell hlen
              go_wp2_with fail
              go_roundg (per k - (j + 1))
              case measure => omega
              case rel => exact ⟨j + 1, by omega, rfl, by go_num, HO.out, HR.out, by rw [Hm.out]; exact Hrow.out, hb.setCell (by simp) _⟩
            · obtain rfl : j = per k := by omega
              obtain ⟨vs, hvs, hro⟩ := hR
              have hvl := hro.1
              simp only [List.length_map] at hvl
              have hs3 : (nats (orb f k (per k))).length = per k := by rw [nats_length, hlen]
              have hsn := hro.snoc hO
              rw [hs3] at hsn
              have Hvs := Lib.hid hvs
              have Hsn := Lib.hid hsn; clear hsn hro hvs hs3 hlen
              have Hrow := Lib.hid hrow
              have hsz2 := hrow.lt
              clear hrow hO
              go_wp2_with (with_reducible refine wpList_append_one rfl (.tmp 42) (.tmp 44) 42 rfl (w.heap.size + 1) 22 i1 (.slice none 0 0) 24 Try.underlying42 hi1 hy0 hy1 hy2 rfl A _ c vs rfl hvl (Hvs.out.alloc _) _ 1 (.slice A2 (per k) c2) rfl (by simp) rfl (by omega) (by omega) (by simp; omega) ?_; intro A3 c3 w3 hO3 hT3 hA3)
              have hb3 : Below w.heap.size w w3 := (hb.alloc (by omega) _).trans (hT3.below (by simp; omega) (fun y hy => Nat.le_of_succ_le (Hvs.out.lt hy).1))
              go_roundg (N - (k + 1))
              case measure => omega
              case rel =>
                refine ⟨k + 1, A3, c3, by omega, rfl, by go_num, by rw [HE.out]; simp, ?_, ?_, hb3⟩
                · rw [HE.out]
                  refine ⟨_, hO3, ?_⟩
                  rw [List.map_append]
                  exact (Hsn.out.alloc _).turned (Hvs.out.alloc _) (by decide) hT3
                · rw [HE.out]
                  exact (Hrow.out.alloc _).turnedT (Hvs.out.alloc _) (by decide) hT3
        · have hw2 : wb k = false := by simpa using hw
          have HE : Hid (cyTo f per wb N (k + 1) = st) := Lib.hid (by rw [cyTo, Hst.out, cyRound, if_neg hseen, if_neg hw])
          clear hseen hs2
          go_wp2_with fail
          refine (Hwb.out _ k hb hlt).mono ?_
          rintro e w1 ⟨rfl, hb1⟩
          rw [hw2]
          clear hw hw2
          have hb1' := below_step hb hb1
          go_wp2_with fail
          go_roundg (N - (k + 1))
          case measure => omega
          case rel => exact ⟨k + 1, A, c, by omega, rfl, by go_num, by rw [HE.out], by rw [HE.out]; exact Hown.out.later hb1 (Nat.le_refl _), by rw [HE.out]; exact Hrow.out.later hb1 hsz, hb1'⟩
    · obtain rfl : k = N := by omega
      have hfin : (cycs f per wb k) = st.2 := by rw [cycs, Hst.out]
      have Hfin := Lib.hid hfin; clear hfin
      have Hown := Lib.hid hown; clear hown
      have Hrow := Lib.hid hrow; clear hrow
      go_wp2_with fail
      go_ret
      rw [Hfin.out]
      exact ⟨A, c, rfl, hb, Hown.out.mono (by omega)⟩
end Go.Proofs.Ytmjoijfafachhaa
