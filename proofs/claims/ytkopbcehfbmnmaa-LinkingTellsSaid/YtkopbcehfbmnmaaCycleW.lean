/- The walk of diagram.cycle, for whatever successor function. -/
import Derived.Test.YtkopbcehfbmnmaaProg
import Derived.Test.YtkopbcehfbmnmaaIter0
import Derived.Test.YtkopbcehfbmnmaaLabelW
namespace Go.Proofs.Ytkopbcehfbmnmaa
open Go Go.RowKit
/-- A function value that, in every world behind w, takes each number below N to f of it, and leaves the old blocks alone. -/
def NatFn (w : World) (F : FuncId) (cap : Array Value) (N : Nat) (f : Nat → Nat) : Prop :=
  ∀ (W : World) (x : Nat), Below w.heap.size w W → x < N → Calls Try.prog F (#[.int .i64 (x : Int)] ++ cap) W fun e w' => e = .returned (.int .i64 ((f x : Nat) : Int)) ∧ Below W.heap.size W w'
set_option maxRecDepth 100000 in
set_option maxHeartbeats 1000000 in
theorem cycle_any (F : FuncId) (cap : Array Value) (N : Nat) (f : Nat → Nat) (w : World) (s p : Nat) (hcall : ∀ args W, (callFunc F args).run Try.prog W = .ok (.enter F args) W)
    (hnx : NatFn w F cap N f) (hf : ∀ x, x < N → f x < N) (hs : s < N) (hp : IsPer f s p) (hpb : p ≤ 1000000) :
    Calls Try.prog 161 #[.int .i64 (s : Int), .func (.func F) #[] cap] w fun e w' => ∃ a c, e = .returned (.slice a p c) ∧ Below w.heap.size w w' ∧ Own w' w.heap.size 3 a c (ints (nats (orb f s p))) := by
  obtain ⟨i0, hi, hz0, hz1, hz2⟩ := info_parts Try.info3
  have Hf := Lib.hid hf; clear hf
  have Hp := Lib.hid hp; clear hp
  have Hnx := Lib.hid hnx; clear hnx
  go_enter Try.func161, Try.ntmps161
  go_wp2_with fail
  refine (Hnx.out _ s ((Below.refl _ _).alloc (Nat.le_refl _) _) hs).mono ?_
  rintro e w1 ⟨rfl, hb1⟩
  go_wp2_with fail
  go_loopg [6, 5] (p - 1) (fun g hv lv wr => ∃ (k : Nat) (A : Option Addr) (c : Nat), 0 < k ∧ k ≤ p ∧ g = p - k ∧ hv = .int .i64 ((iter f k s : Nat) : Int) ∧ lv = .slice A k c ∧ Own wr w.heap.size 3 A c (ints (nats (orb f s k))) ∧ Below w.heap.size w wr)
  case atStart =>
    refine ⟨1, some ⟨w.heap.size, 0, none⟩, 1, by omega, Hp.out.1, rfl, rfl, rfl, ?_, ?_⟩
    · have h1 := (Own.made (w := w) (B := w.heap.size) (E := 3) #[Value.int .i64 (s : Int)] (Nat.le_refl _)).later hb1 (Nat.le_refl _)
      simpa [ints, nats, orb, iter] using h1
    · exact below_of ((Below.refl _ _).alloc (Nat.le_refl _) _) hb1 (by simp)
  case round =>
    obtain ⟨k, A, c, hk0, hkp, rfl, rfl, rfl, hown, hb⟩ := hrel
    clear hb1
    have hsz := hb.size
    by_cases hlt : k < p
    · have hne := Hp.out.2.2 k hk0 hlt
      have hx := iter_lt f N Hf.out k s hs
      have ht : (((iter f k s : Nat) : Int) != (s : Int)) = true := by simp; omega
      have Hown := Lib.hid hown; clear hown
      have Hne := Lib.hid hne; clear hne
      have hlen : (ints (nats (orb f s k))).length = k := by rw [ints_length, nats_length, orb_length]
      have Hlen := Lib.hid hlen; clear hlen
      have Hsn : Hid (ints (nats (orb f s k)) ++ [.int .i64 ((iter f k s : Nat) : Int)] = ints (nats (orb f s (k + 1)))) := Lib.hid (by rw [ints_snoc, nats_snoc, orb_succ])
      have Hcell : Hid ((wr.alloc (.cells #[.int .i64 ((iter f k s : Nat) : Int)] 3)).cell? ⟨wr.heap.size, 0, none⟩ = some (.int .i64 ((iter f k s : Nat) : Int))) := Lib.hid (by simp)
      have Hit : Hid (iter f (k + 1) s = f (iter f k s)) := Lib.hid (iter_succ f k s)
      generalize iter f k s = x at *
      go_wp2_with (with_reducible refine wpList_append_one rfl (.tmp 18) (.tmp 20) 22 rfl w.heap.size 3 i0 (.int .i64 0) 8 Try.underlying22 hi hz0 hz1 hz2 rfl A k c _ rfl Hlen.out (Hown.out.alloc _) _ 1 (.int .i64 (x : Int)) rfl Hcell.out rfl (by omega) (by omega) (by simp; omega) ?_; intro A2 c2 w2 hO2 hT2 hA2)
      have hb2 : Below w.heap.size w w2 := (hb.alloc hsz _).trans (hT2.below (by simp; omega) (fun y hy => (Hown.out.lt hy).1))
      refine (Hnx.out _ x hb2 hx).mono ?_
      rintro e w3 ⟨rfl, hb3⟩
      go_wp2_with fail
      go_roundg (p - (k + 1))
      case measure => omega
      case rel =>
        refine ⟨k + 1, A2, c2, by omega, by omega, rfl, by rw [Hit.out], rfl, ?_, below_of hb2 hb3 (by have := hb2.size; omega)⟩
        rw [← Hsn.out]
        exact hO2.later hb3 (Nat.le_refl _)
    · obtain rfl : k = p := by omega
      have he := Hp.out.2.1
      have ht : (((iter f k s : Nat) : Int) != (s : Int)) = false := by rw [he]; simp
      have Hown := Lib.hid hown; clear hown he
      go_wp2_with fail
      go_ret
      exact ⟨A, c, rfl, hb, Hown.out⟩
end Go.Proofs.Ytkopbcehfbmnmaa
