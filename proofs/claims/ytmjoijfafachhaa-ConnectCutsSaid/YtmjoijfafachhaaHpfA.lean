/- More of the memory that a call made: slices forgotten, slices cut. -/
import Derived.Test.YtmjoijfafachhaaHeap
namespace Go.Proofs.Ytmjoijfafachhaa
open Go Go.RowKit
namespace HH
variable {w0 w w' : World} {l : Kn} {s : List SlO}
theorem forget {s' : List SlO} (h : HH w0 w l s) (hs : s'.Sublist s) : HH w0 w l s' :=
  ⟨h.below, h.blk, fun x hx => h.own x (hs.subset hx), h.nd1, h.nd2.sublist hs, fun x hx y hy => h.nd3 x hx y (hs.subset hy)⟩
theorem forgetK {l' : Kn} (h : HH w0 w l s) (hs : l'.Sublist l) : HH w0 w l' s :=
  ⟨h.below, fun x hx => h.blk x (hs.subset hx), h.own, h.nd1.sublist hs, h.nd2, fun x hx => h.nd3 x (hs.subset hx)⟩
/-- One slice is cut; it lies in the same block. -/
theorem recut (h : HH w0 w l s) {k : Nat} {a : Option Addr} {c : Nat} {E : TypeId} {vs : List Value} (hk : nthO s k = some ⟨a, c, E, vs⟩) {a' : Option Addr} {c' : Nat} {vs' : List Value} (ho : Own w w0.heap.size E a' c' vs')
    (hf : ∀ x, a' = some x → ∃ y, a = some y ∧ y.block = x.block) : HH w0 w l (setO s k ⟨a', c', E, vs'⟩) := by
  have hm := nthO_mem hk
  obtain ⟨p1, p2⟩ := setO_pair (R := fun (x y : SlO) => ∀ p q, x.a = some p → y.a = some q → p.block ≠ q.block) (fun _ _ h p q hp hq e => h q p hq hp e.symm) (y := ⟨a', c', E, vs'⟩) h.nd2 hk (fun z hz hR p q hp hq => by
    obtain ⟨y, hy, e⟩ := hf p hp
    rw [← e]; exact hR _ q hy hq)
  refine ⟨h.below, h.blk, fun x hx => ?_, h.nd1, p1, fun x hx y hy q hq => ?_⟩
  · rcases p2 x hx with e | ⟨e1, _⟩
    · subst e; exact ho
    · exact h.own x e1
  · rcases p2 y hy with e | ⟨e1, _⟩
    · subst e
      obtain ⟨z, hz, e⟩ := hf q hq
      rw [← e]; exact h.nd3 x hx _ hm _ hz
    · exact h.nd3 x hx y e1 q hq
end HH
end Go.Proofs.Ytmjoijfafachhaa
