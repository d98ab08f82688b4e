/- Plain law: the search that counts the parts of a graph without two edges. law07's pieces: how many parts remain without two edges. Slices of slices of integers that are read: s[i:], s[i:j]. -/
import Derived.WalkKit
import Derived.WalkSpells
import Derived.WalkLawsBesides
import Derived.Deep.AppendSrc
import Derived.Deep.LoopGhost
import Derived.Deep.QuietTactic
import Derived.Deep.RegionWith
import Derived.Deep.DeepMust
import Derived.Deep.DeepFit
import Derived.BigQuiet
import Derived.Lib.Hide
import Derived.Outline
import Derived.Test.YtmhhjchnjaefhaaDoorProg
import Derived.Deep.Matrix
import Derived.Deep.DeepCutAuto
import Derived.Deep.RegionLaw
import Derived.Deep.RegionHeld3
import Derived.Test.YtmhhjchnjaefhaaDoorFaAa
import Derived.Test.YtmhhjchnjaefhaaDoorFaAc
import Derived.Test.YtmhhjchnjaefhaaDoorFaAd
import Derived.Test.YtmhhjchnjaefhaaDoorFaAe
import Derived.Test.YtmhhjchnjaefhaaDoorFaAf
import Derived.Test.YtmhhjchnjaefhaaDoorFaAg
import Derived.Test.YtmhhjchnjaefhaaDoorFaAh
import Derived.Test.YtmhhjchnjaefhaaDoorFaAi
import Derived.Test.YtmhhjchnjaefhaaDoorFaAj
namespace Go.Proofs.YtmhhjchnjaefhaaDoor
open Go Go.RowKit
/-- The search from c: what is seen, what waits; of b the first k ends have been looked at. -/
structure Sr (M : List Int) (x y n c : Nat) (old : Nat → Prop) (seen : List Bool) (rest : List Nat) (b k : Nat) : Prop where
  len : seen.length = n
  only : ∀ d, d < n → bth seen d = true → old d ∨ ConnW M x y c d
  olds : ∀ d, d < n → old d → bth seen d = true
  root : bth seen c = true
  wait : ∀ d ∈ rest, d < n ∧ bth seen d = true ∧ ConnW M x y c d
  done : ∀ d, d < n → bth seen d = true → ¬ old d → d ∉ rest → d ≠ b → ∀ e, AdjW M x y d e → bth seen e = true
  now : b < n → ConnW M x y c b ∧ ∀ s, s < k → 4 * b + s ≠ x → mt M (4 * b + s) ≠ x → 4 * b + s ≠ y → mt M (4 * b + s) ≠ y → bth seen (mt M (4 * b + s) / 4) = true
namespace Sr
variable {M : List Int} {x y n c b k : Nat} {old : Nat → Prop} {seen : List Bool} {rest : List Nat}
theorem start (hl : seen.length = n) (hc : c < n) (ho : ∀ d, d < n → (bth seen d = true ↔ old d)) : Sr M x y n c old (seen.set c true) [c] n 0 := by
  have hs := fun j => bth_set seen c j true (by omega)
  refine ⟨by rw [List.length_set, hl], fun d hd h => ?_, fun d hd h => ?_, ?_, fun d hd => ?_, fun d hd h hn hr => ?_, fun h => absurd h (Nat.lt_irrefl _)⟩
  · rw [hs] at h
    by_cases e : c = d
    · subst e; exact .inr (ConnW.refl M x y c)
    · rw [if_neg e] at h; exact .inl ((ho d hd).1 h)
  · rw [hs]
    by_cases e : c = d
    · rw [if_pos e]
    · rw [if_neg e]; exact (ho d hd).2 h
  · rw [hs, if_pos rfl]
  · obtain rfl := List.mem_singleton.1 hd
    exact ⟨hc, by rw [hs, if_pos rfl], ConnW.refl M x y d⟩
  · rw [hs] at h
    by_cases e : c = d
    · subst e; exact absurd (List.mem_singleton.2 rfl) hr
    · rw [if_neg e] at h; exact absurd ((ho d hd).1 h) hn
end Sr
end Go.Proofs.YtmhhjchnjaefhaaDoor


namespace Go.Proofs.YtmhhjchnjaefhaaDoor
open Go Go.RowKit
theorem ints_nats_snoc (l : List Nat) (m : Nat) : ints (nats l) ++ [.int .i64 (m : Int)] = ints (nats (l ++ [m])) := by rw [← nats_snoc, ← ints_snoc]
theorem natsv_len (l : List Nat) : (ints (nats l)).length = l.length := by rw [ints_length, nats_length]
end Go.Proofs.YtmhhjchnjaefhaaDoor


namespace Go.Proofs.YtmhhjchnjaefhaaDoor
open Go Go.RowKit
def fromA (A : Option Addr) (i c : Nat) : Option Addr := if c = i then A else A.map (·.add (i * 1))
theorem IntsAt.from {w : World} {A : Option Addr} {zs : List Int} (h : IntsAt w A zs) {i c : Nat} (hc : zs.length ≤ c) : IntsAt w (fromA A i c) (zs.drop i) := by
  unfold fromA
  by_cases e : c = i
  · rw [if_pos e, List.drop_eq_nil_of_le (by omega)]; exact IntsAt.nil _ _
  · rw [if_neg e]
    intro j v hj
    rw [← ints_drop, List.getElem?_drop] at hj
    obtain ⟨b, off, rfl, hv⟩ := h (i + j) v hj
    exact ⟨b, off + i, by rw [Option.map_some, Addr.add_lit, Nat.mul_one], by rw [Nat.add_assoc]; exact hv⟩
theorem IntsAt.take {w : World} {A : Option Addr} {zs : List Int} (h : IntsAt w A zs) (i : Nat) : IntsAt w A (zs.take i) := fun j v hj => by
  have hjl := (List.getElem?_eq_some_iff.1 hj).1
  rw [ints_length, List.length_take] at hjl
  rw [ints_get _ _ (by rw [List.length_take]; exact hjl)] at hj
  refine h j v ?_
  rw [ints_get _ _ (by omega), ← hj]
  have : nth (zs.take i) j = nth zs j := by unfold nth; rw [List.getD_eq_getElem?_getD, List.getD_eq_getElem?_getD, List.getElem?_take_of_lt (by omega)]
  rw [this]
section
variable {P : Program}
theorem run_from' {t E : TypeId} {i : TypeInfo} (h1 : P.underlying t = some (.slice E)) (h2 : P.info? E = some i) (h4 : i.size = 1) (A : Option Addr) (n c k : Nat) (hk : k ≤ n) (x : Int) (hx : x = (k : Int)) (w : World) :
    (Instr.slice t (.slice A n c) (some (.int .i64 x)) none none).run P w = .ok (.slice (fromA A k c) (n - k) (c - k)) w := by
  subst hx
  have he : P.elem t = E := by simp [Program.elem, h1]
  have h1' : P.underlying t = some (.slice (P.elem t)) := by rw [he]; exact h1
  have hs : (sizeOf (P.elem t)).run P w = .ok 1 w := by rw [he]; simp [sizeOf, typeInfo, h2, h4]
  have hr := run_slice_l (P := P) w t A n c h1' .i64 (k : Int) (by omega) (by omega)
  rw [hs] at hr
  rw [hr]
  simp [Result.andThen, sliced, fromA]
theorem run_mid' {t E : TypeId} {i : TypeInfo} (h1 : P.underlying t = some (.slice E)) (h2 : P.info? E = some i) (h4 : i.size = 1) (A : Option Addr) (n c k l : Nat) (hk : k ≤ l) (hl : l ≤ c) (x y : Int) (hx : x = (k : Int)) (hy : y = (l : Int)) (w : World) :
    (Instr.slice t (.slice A n c) (some (.int .i64 x)) (some (.int .i64 y)) none).run P w = .ok (.slice (fromA A k c) (l - k) (c - k)) w := by
  subst hx hy
  have he : P.elem t = E := by simp [Program.elem, h1]
  have h1' : P.underlying t = some (.slice (P.elem t)) := by rw [he]; exact h1
  have hs : (sizeOf (P.elem t)).run P w = .ok 1 w := by rw [he]; simp [sizeOf, typeInfo, h2, h4]
  have hr := run_slice_lh (P := P) w t A n c h1' .i64 .i64 (k : Int) (l : Int) (by omega) (by omega) (by omega)
  rw [hs] at hr
  rw [hr]
  simp [Result.andThen, sliced, fromA]
end
end Go.Proofs.YtmhhjchnjaefhaaDoor


