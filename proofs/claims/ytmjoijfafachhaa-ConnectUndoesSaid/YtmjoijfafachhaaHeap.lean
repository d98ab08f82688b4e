/- What a walk knows of the memory that its call made: blocks, each with what it holds; slices that grow. -/
import Derived.Test.YtmjoijfafachhaaBase
namespace Go.Proofs.Ytmjoijfafachhaa
open Go Go.RowKit
def nthO {α : Type} : List α → Nat → Option α
  | [], _ => none
  | x :: _, 0 => some x
  | _ :: l, k + 1 => nthO l k
def setO {α : Type} : List α → Nat → α → List α
  | [], _, _ => []
  | _ :: l, 0, y => y :: l
  | x :: l, k + 1, y => x :: setO l k y
theorem nthO_mem {α : Type} : ∀ {l : List α} {k : Nat} {x : α}, nthO l k = some x → x ∈ l
  | [], _, _, h => by cases h
  | y :: l, 0, x, h => by simp only [nthO, Option.some.injEq] at h; subst h; exact List.mem_cons_self
  | y :: l, k + 1, x, h => List.mem_cons_of_mem _ (nthO_mem (l := l) (k := k) h)
/-- What a relation that all pairs bear says of one place against the others. -/
theorem setO_pair {α : Type} {R : α → α → Prop} (hs : ∀ x y, R x y → R y x) : ∀ {l : List α} {k : Nat} {x y : α}, l.Pairwise R → nthO l k = some x → (∀ z, z ∈ l → R x z → R y z) → (setO l k y).Pairwise R ∧ ∀ z, z ∈ setO l k y → z = y ∨ (z ∈ l ∧ R x z)
  | [], _, _, _, _, h, _ => by cases h
  | a :: l, 0, x, y, hp, h, hy => by
    simp only [nthO, Option.some.injEq] at h
    subst h
    rw [List.pairwise_cons] at hp
    refine ⟨?_, fun z hz => ?_⟩
    · show (y :: l).Pairwise R
      rw [List.pairwise_cons]
      exact ⟨fun z hz => hy z (List.mem_cons_of_mem _ hz) (hp.1 z hz), hp.2⟩
    · rcases List.mem_cons.1 hz with e | e
      · exact .inl e
      · exact .inr ⟨List.mem_cons_of_mem _ e, hp.1 z e⟩
  | a :: l, k + 1, x, y, hp, h, hy => by
    rw [List.pairwise_cons] at hp
    have hx : x ∈ l := nthO_mem (l := l) (k := k) h
    obtain ⟨i1, i2⟩ := setO_pair hs (l := l) (k := k) (x := x) (y := y) hp.2 h fun z hz => hy z (List.mem_cons_of_mem _ hz)
    refine ⟨?_, fun z hz => ?_⟩
    · show (a :: setO l k y).Pairwise R
      rw [List.pairwise_cons]
      refine ⟨fun z hz => ?_, i1⟩
      rcases i2 z hz with e | e
      · rw [e]; exact hs _ _ (hy a List.mem_cons_self (hs _ _ (hp.1 x hx)))
      · exact hp.1 z e.1
    · rcases List.mem_cons.1 hz with e | e
      · rw [e]; exact .inr ⟨List.mem_cons_self, hs _ _ (hp.1 x hx)⟩
      · rcases i2 z e with g | g
        · exact .inl g
        · exact .inr ⟨List.mem_cons_of_mem _ g.1, g.2⟩
/-- A row of cells. -/
def rowO (E : TypeId) (vs : List Value) : Obj → Prop := fun o => o = .cells vs.toArray E (0, 0)
/-- A slice that grows. -/
structure SlO where
  a : Option Addr
  c : Nat
  E : TypeId
  vs : List Value
abbrev Kn := List (Nat × (Obj → Prop))
/-- Since w0 the call made the blocks of l and the slices of s, which lie apart; all else is as it was. -/
structure HH (w0 w : World) (l : Kn) (s : List SlO) : Prop where
  below : Below w0.heap.size w0 w
  blk : ∀ x ∈ l, w0.heap.size ≤ x.1 ∧ ∃ o, w.heap[x.1]? = some o ∧ x.2 o
  own : ∀ x ∈ s, Own w w0.heap.size x.E x.a x.c x.vs
  nd1 : l.Pairwise fun x y => x.1 ≠ y.1
  nd2 : s.Pairwise fun x y => ∀ p q, x.a = some p → y.a = some q → p.block ≠ q.block
  nd3 : ∀ x ∈ l, ∀ y ∈ s, ∀ q, y.a = some q → x.1 ≠ q.block
namespace HH
variable {w0 w w' : World} {l : Kn} {s : List SlO}
theorem start (w : World) : HH w w [] [] := ⟨Below.refl _ _, (fun x h => by cases h), (fun x h => by cases h), List.Pairwise.nil, List.Pairwise.nil, (fun x h => by cases h)⟩
theorem lt (h : HH w0 w l s) {x : Nat × (Obj → Prop)} (hx : x ∈ l) : x.1 < w.heap.size := by
  obtain ⟨_, o, ho, _⟩ := h.blk x hx
  exact lt_of_heap ho
/-- A call that leaves all old blocks alone. -/
theorem call (h : HH w0 w l s) (hb : Below w.heap.size w w') : HH w0 w' l s :=
  ⟨h.below.trans (hb.mono h.below.size), fun x hx => by
    obtain ⟨h1, o, ho, hr⟩ := h.blk x hx
    exact ⟨h1, o, (hb.block _ (lt_of_heap ho)).trans ho, hr⟩, fun x hx => (h.own x hx).later hb (Nat.le_refl _), h.nd1, h.nd2, h.nd3⟩
theorem drew (h : HH w0 w l s) : HH w0 w.drew l s := h.call (Below.refl _ _).drew
theorem drewN (h : HH w0 w l s) (n : Nat) : HH w0 (w.drewN n) l s := h.call (below_drewNN (Below.refl _ _) n)
/-- A block more. -/
theorem add (h : HH w0 w l s) (hb : Below w.heap.size w w') {b : Nat} {R : Obj → Prop} {o : Obj} (hlo : w.heap.size ≤ b) (ho : w'.heap[b]? = some o) (hr : R o) : HH w0 w' (l ++ [(b, R)]) s := by
  have h' := h.call hb
  refine ⟨h'.below, fun x hx => ?_, h'.own, ?_, h.nd2, fun x hx y hy q hq => ?_⟩
  · rcases List.mem_append.1 hx with e | e
    · exact h'.blk x e
    · obtain rfl := List.mem_singleton.1 e
      exact ⟨Nat.le_trans h.below.size hlo, o, ho, hr⟩
  · rw [List.pairwise_append]
    refine ⟨h.nd1, List.pairwise_singleton _ _, fun x hx y hy => ?_⟩
    obtain rfl := List.mem_singleton.1 hy
    have := h.lt hx
    show x.1 ≠ b
    omega
  · rcases List.mem_append.1 hx with e | e
    · exact h.nd3 x e y hy q hq
    · obtain rfl := List.mem_singleton.1 e
      have := ((h.own y hy).lt hq).2
      show b ≠ q.block
      omega
theorem addRow (h : HH w0 w l s) (hb : Below w.heap.size w w') {b : Nat} {E : TypeId} {vs : List Value} (hlo : w.heap.size ≤ b) (hr : Row w' b E vs) : HH w0 w' (l ++ [(b, rowO E vs)]) s := h.add hb hlo hr rfl
theorem alloc (h : HH w0 w l s) (cs : Array Value) (E : TypeId) {b : Nat} (hb : b = w.heap.size) {vs : List Value} (hv : cs.toList = vs) : HH w0 (w.alloc (.cells cs E)) (l ++ [(b, rowO E vs)]) s := by
  subst hb; subst hv
  exact h.addRow ((Below.refl _ _).alloc (Nat.le_refl _) _) (Nat.le_refl _) (Row.new w cs E)
theorem allocO (h : HH w0 w l s) (o : Obj) {b : Nat} (hb : b = w.heap.size) {R : Obj → Prop} (hr : R o) : HH w0 (w.alloc o) (l ++ [(b, R)]) s := by
  subst hb
  exact h.add ((Below.refl _ _).alloc (Nat.le_refl _) _) (Nat.le_refl _) (heap_alloc_new w o) hr
/-- A slice more. -/
theorem addSl (h : HH w0 w l s) (hb : Below w.heap.size w w') {a : Option Addr} {c : Nat} {E : TypeId} {vs : List Value} (ho : Own w' w.heap.size E a c vs) : HH w0 w' l (s ++ [⟨a, c, E, vs⟩]) := by
  have h' := h.call hb
  refine ⟨h'.below, h'.blk, fun x hx => ?_, h.nd1, ?_, fun x hx y hy q hq => ?_⟩
  · rcases List.mem_append.1 hx with e | e
    · exact h'.own x e
    · obtain rfl := List.mem_singleton.1 e
      exact ho.mono h.below.size
  · rw [List.pairwise_append]
    refine ⟨h.nd2, List.pairwise_singleton _ _, fun x hx y hy p q hp hq => ?_⟩
    obtain rfl := List.mem_singleton.1 hy
    have h1 := ((h.own x hx).lt hp).2
    have h2 := (ho.lt hq).1
    omega
  · rcases List.mem_append.1 hy with e | e
    · exact h.nd3 x hx y e q hq
    · obtain rfl := List.mem_singleton.1 e
      have h1 := h.lt hx
      have h2 := (ho.lt hq).1
      omega
theorem addNil (h : HH w0 w l s) (E : TypeId) : HH w0 w l (s ++ [⟨none, 0, E, []⟩]) := h.addSl (Below.refl _ _) (Own.nil _ _ _)
/-- One block turns. -/
theorem upd (h : HH w0 w l s) {k b : Nat} {R R' : Obj → Prop} {o : Obj} (hk : nthO l k = some (b, R)) (hos : w'.os = w.os) (htp : w'.tape = w.tape) (hop : w'.output = w.output) (hsz : w.heap.size ≤ w'.heap.size)
    (hblk : ∀ i, i < w.heap.size → i ≠ b → w'.heap[i]? = w.heap[i]?) (ho : w'.heap[b]? = some o) (hr : R' o) : HH w0 w' (setO l k (b, R')) s := by
  have hm := nthO_mem hk
  have hlo := (h.blk _ hm).1
  obtain ⟨p1, p2⟩ := setO_pair (R := fun (x y : Nat × (Obj → Prop)) => x.1 ≠ y.1) (fun _ _ h e => h e.symm) (y := (b, R')) h.nd1 hk (fun z _ hz => hz)
  refine ⟨h.below.trans ⟨hos, htp, hop, hsz, fun i hi => hblk i (by have := h.below.size; omega) (by have : w0.heap.size ≤ b := hlo; omega)⟩, fun x hx => ?_, fun x hx => ?_, p1, h.nd2, fun x hx y hy q hq => ?_⟩
  · rcases p2 x hx with e | ⟨e1, e2⟩
    · subst e; exact ⟨hlo, o, ho, hr⟩
    · obtain ⟨h1, o', ho', hr'⟩ := h.blk x e1
      exact ⟨h1, o', (hblk _ (lt_of_heap ho') (fun e => e2 e.symm)).trans ho', hr'⟩
  · refine (h.own x hx).kept fun q hq => hblk _ ((h.own x hx).lt hq).2 fun e => ?_
    exact h.nd3 _ hm x hx q hq e.symm
  · rcases p2 x hx with e | ⟨e1, _⟩
    · subst e; exact h.nd3 _ hm y hy q hq
    · exact h.nd3 x e1 y hy q hq
theorem row (h : HH w0 w l s) {k b : Nat} {E : TypeId} {vs : List Value} (hk : nthO l k = some (b, rowO E vs)) : Row w b E vs := by
  obtain ⟨_, o, ho, hr⟩ := h.blk _ (nthO_mem hk)
  have hr : o = .cells vs.toArray E (0, 0) := hr
  rw [hr] at ho; exact ho
theorem obj (h : HH w0 w l s) {k b : Nat} {R : Obj → Prop} (hk : nthO l k = some (b, R)) : w0.heap.size ≤ b ∧ b < w.heap.size ∧ ∃ o, w.heap[b]? = some o ∧ R o :=
  ⟨(h.blk _ (nthO_mem hk)).1, h.lt (nthO_mem hk), (h.blk _ (nthO_mem hk)).2⟩
theorem cell (h : HH w0 w l s) {k b i : Nat} {E : TypeId} {vs : List Value} {v : Value} (hk : nthO l k = some (b, rowO E vs)) (hv : vs[i]? = some v) : w.cell? ⟨b, i, none⟩ = some v := (h.row hk).cell i ▸ hv
theorem frozen (h : HH w0 w l s) {k b : Nat} {E : TypeId} {vs : List Value} (hk : nthO l k = some (b, rowO E vs)) (i : Nat) : w.frozen? ⟨b, i, none⟩ = false := (h.row hk).frozen i
theorem int (h : HH w0 w l s) {k b : Nat} {E : TypeId} {xs : List Int} (hk : nthO l k = some (b, rowO E (ints xs))) (i : Nat) (hi : i < xs.length) : w.cell? ⟨b, i, none⟩ = some (.int .i64 (nth xs i)) := (h.row hk).int i hi
theorem bool (h : HH w0 w l s) {k b : Nat} {E : TypeId} {xs : List Bool} (hk : nthO l k = some (b, rowO E (bools xs))) (i : Nat) (hi : i < xs.length) : w.cell? ⟨b, i, none⟩ = some (.bool (bth xs i)) := (h.row hk).bool i hi
theorem set (h : HH w0 w l s) {k b : Nat} {E : TypeId} {vs : List Value} (hk : nthO l k = some (b, rowO E vs)) (i : Nat) (u : Value) : HH w0 (w.setCell ⟨b, i, none⟩ u) (setO l k (b, rowO E (vs.set i u))) s := by
  have hr := (h.row hk).set i u
  exact h.upd hk rfl rfl rfl (by simp) (fun j _ hj => Below.heap_setCell w ⟨b, i, none⟩ u j hj) hr rfl
theorem setInt (h : HH w0 w l s) {k b : Nat} {E : TypeId} {xs : List Int} (hk : nthO l k = some (b, rowO E (ints xs))) (i : Nat) (x : Int) : HH w0 (w.setCell ⟨b, i, none⟩ (.int .i64 x)) (setO l k (b, rowO E (ints (xs.set i x)))) s := by
  have := h.set hk i (.int .i64 x)
  rwa [ints_set] at this
theorem setBool (h : HH w0 w l s) {k b : Nat} {E : TypeId} {xs : List Bool} (hk : nthO l k = some (b, rowO E (bools xs))) (i : Nat) (x : Bool) : HH w0 (w.setCell ⟨b, i, none⟩ (.bool x)) (setO l k (b, rowO E (bools (xs.set i x)))) s := by
  have := h.set hk i (.bool x)
  rwa [bools_set] at this
/-- One slice turns: an append. -/
theorem grow (h : HH w0 w l s) {k : Nat} {a : Option Addr} {c : Nat} {E : TypeId} {vs : List Value} (hk : nthO s k = some ⟨a, c, E, vs⟩) {a' : Option Addr} {c' : Nat} {vs' : List Value} (ho : Own w' w0.heap.size E a' c' vs') (ht : Turned w w' a)
    (hf : ∀ x, a' = some x → (w.heap.size ≤ x.block ∨ ∃ y, a = some y ∧ x = y)) : HH w0 w' l (setO s k ⟨a', c', E, vs'⟩) := by
  have hm := nthO_mem hk
  have hmo := h.own _ hm
  obtain ⟨p1, p2⟩ := setO_pair (R := fun (x y : SlO) => ∀ p q, x.a = some p → y.a = some q → p.block ≠ q.block) (fun _ _ h p q hp hq e => h q p hq hp e.symm) (y := ⟨a', c', E, vs'⟩) h.nd2 hk (fun z hz hR p q hp hq => by
    rcases hf p hp with e | ⟨y, hy, rfl⟩
    · have := ((h.own z hz).lt hq).2; omega
    · exact hR _ q hy hq)
  refine ⟨h.below.trans (ht.below h.below.size fun x hx => (hmo.lt hx).1), fun x hx => ?_, fun x hx => ?_, h.nd1, p1, fun x hx y hy q hq => ?_⟩
  · obtain ⟨h1, o, ho', hr⟩ := h.blk x hx
    exact ⟨h1, o, (ht.block _ (lt_of_heap ho') (fun q hq e => h.nd3 x hx _ hm q hq e.symm)).trans ho', hr⟩
  · rcases p2 x hx with e | ⟨e1, e2⟩
    · subst e; exact ho
    · refine (h.own x e1).kept fun q hq => ht.block _ ((h.own x e1).lt hq).2 fun p hp => e2 p q hp hq
  · rcases p2 y hy with e | ⟨e1, _⟩
    · subst e
      rcases hf q hq with g | ⟨z, hz, rfl⟩
      · have := h.lt hx; omega
      · exact h.nd3 x hx _ hm _ hz
    · exact h.nd3 x hx y e1 q hq
theorem sl (h : HH w0 w l s) {k : Nat} {x : SlO} (hk : nthO s k = some x) : Own w w0.heap.size x.E x.a x.c x.vs := h.own x (nthO_mem hk)
/-- .. a store into it. -/
theorem slSet (h : HH w0 w l s) {k b off c : Nat} {E : TypeId} {vs : List Value} (hk : nthO s k = some ⟨some ⟨b, off, none⟩, c, E, vs⟩) (i : Nat) (hi : i < vs.length) (u : Value) : HH w0 (w.setCell ⟨b, off + i, none⟩ u) l (setO s k ⟨some ⟨b, off, none⟩, c, E, vs.set i u⟩) := by
  refine h.grow hk ((h.sl hk).set i hi u) ⟨rfl, rfl, rfl, by simp, fun j _ hj => Below.heap_setCell w _ u j fun e => hj _ rfl e.symm⟩ fun x hx => .inr ⟨x, hx, rfl⟩
/-- What came in. -/
theorem came (h : HH w0 w l s) {a : Option Addr} {xs : List Int} (hx : IntsAt w0 a xs) : IntsAt w a xs := hx.later h.below
end HH
namespace HH
variable {w0 w w' : World} {l : Kn} {s : List SlO}
theorem forget {s' : List SlO} (h : HH w0 w l s) (hs : s'.Sublist s) : HH w0 w l s' :=
  ⟨h.below, h.blk, fun x hx => h.own x (hs.subset hx), h.nd1, h.nd2.sublist hs, fun x hx y hy => h.nd3 x hx y (hs.subset hy)⟩
theorem forgetK {l' : Kn} (h : HH w0 w l s) (hs : l'.Sublist l) : HH w0 w l' s :=
  ⟨h.below, fun x hx => h.blk x (hs.subset hx), h.own, h.nd1.sublist hs, h.nd2, fun x hx => h.nd3 x (hs.subset hx)⟩
/-- One slice is cut; it lies in the same block. -/
theorem recut (h : HH w0 w l s) {k : Nat} {a : Option Addr} {c : Nat} {E : TypeId} {vs : List Value} (hk : nthO s k = some ⟨a, c, E, vs⟩) {a' : Option Addr} {c' : Nat} {vs' : List Value} (ho : Own w w0.heap.size E a' c' vs')
    (hf : ∀ x, a' = some x → ∃ y, a = some y ∧ y.block = x.block) : HH w0 w l (setO s k ⟨a', c', E, vs'⟩) := by
  have hm := nthO_mem hk
  obtain ⟨p1, p2⟩ := setO_pair (R := fun (x y : SlO) => ∀ p q, x.a = some p → y.a = some q → p.block ≠ q.block) (fun _ _ h p q hp hq e => h q p hq hp e.symm) (y := ⟨a', c', E, vs'⟩) h.nd2 hk (fun z hz hR p q hp hq => by
    obtain ⟨y, hy, e⟩ := hf p hp
    rw [← e]; exact hR _ q hy hq)
  refine ⟨h.below, h.blk, fun x hx => ?_, h.nd1, p1, fun x hx y hy q hq => ?_⟩
  · rcases p2 x hx with e | ⟨e1, _⟩
    · subst e; exact ho
    · exact h.own x e1
  · rcases p2 y hy with e | ⟨e1, _⟩
    · subst e
      obtain ⟨z, hz, e⟩ := hf q hq
      rw [← e]; exact h.nd3 x hx _ hm _ hz
    · exact h.nd3 x hx y e1 q hq
end HH
end Go.Proofs.Ytmjoijfafachhaa
