/- What a walk knows of the memory that its call made: blocks, each with what it holds; slices that grow. Append of elements of k cells; two pairs of numbers compared. diagram.Graph: the parts of a diagram, as lists. -/
import Derived.WalkKit
import Derived.WalkSpells
import Derived.WalkLawsBesides
import Derived.Deep.AppendSrc
import Derived.Deep.LoopGhost
import Derived.Deep.QuietTactic
import Derived.Deep.RegionWith
import Derived.Deep.DeepMust
import Derived.Deep.DeepFit
import Derived.BigQuiet
import Derived.Lib.Hide
import Derived.Outline
import Derived.Test.YtmjoijfafachhaaGreatDoorProg
import Derived.Deep.Matrix
import Derived.Deep.DeepCutAuto
import Derived.Deep.RegionLaw
import Derived.Deep.RegionHeld3
import Derived.Test.YtmjoijfafachhaaGreatDoorZuAa
import Derived.Test.YtmjoijfafachhaaGreatDoorZuAb
import Derived.Test.YtmjoijfafachhaaGreatDoorZuAc
import Derived.Test.YtmjoijfafachhaaGreatDoorZuAd
import Derived.Test.YtmjoijfafachhaaGreatDoorZuAe
import Derived.Test.YtmjoijfafachhaaGreatDoorZuAf
import Derived.Test.YtmjoijfafachhaaGreatDoorZuAg
import Derived.Test.YtmjoijfafachhaaGreatDoorZuAh
namespace Go.Proofs.YtmjoijfafachhaaGreatDoor
open Go Go.RowKit
def nthO {α : Type} : List α → Nat → Option α
  | [], _ => none
  | x :: _, 0 => some x
  | _ :: l, k + 1 => nthO l k
def setO {α : Type} : List α → Nat → α → List α
  | [], _, _ => []
  | _ :: l, 0, y => y :: l
  | x :: l, k + 1, y => x :: setO l k y
theorem nthO_mem {α : Type} : ∀ {l : List α} {k : Nat} {x : α}, nthO l k = some x → x ∈ l
  | [], _, _, h => by cases h
  | y :: l, 0, x, h => by simp only [nthO, Option.some.injEq] at h; subst h; exact List.mem_cons_self
  | y :: l, k + 1, x, h => List.mem_cons_of_mem _ (nthO_mem (l := l) (k := k) h)
/-- What a relation that all pairs bear says of one place against the others. -/
theorem setO_pair {α : Type} {R : α → α → Prop} (hs : ∀ x y, R x y → R y x) : ∀ {l : List α} {k : Nat} {x y : α}, l.Pairwise R → nthO l k = some x → (∀ z, z ∈ l → R x z → R y z) → (setO l k y).Pairwise R ∧ ∀ z, z ∈ setO l k y → z = y ∨ (z ∈ l ∧ R x z)
  | [], _, _, _, _, h, _ => by cases h
  | a :: l, 0, x, y, hp, h, hy => by
    simp only [nthO, Option.some.injEq] at h
    subst h
    rw [List.pairwise_cons] at hp
    refine ⟨?_, fun z hz => ?_⟩
    · show (y :: l).Pairwise R
      rw [List.pairwise_cons]
      exact ⟨fun z hz => hy z (List.mem_cons_of_mem _ hz) (hp.1 z hz), hp.2⟩
    · rcases List.mem_cons.1 hz with e | e
      · exact .inl e
      · exact .inr ⟨List.mem_cons_of_mem _ e, hp.1 z e⟩
  | a :: l, k + 1, x, y, hp, h, hy => by
    rw [List.pairwise_cons] at hp
    have hx : x ∈ l := nthO_mem (l := l) (k := k) h
    obtain ⟨i1, i2⟩ := setO_pair hs (l := l) (k := k) (x := x) (y := y) hp.2 h fun z hz => hy z (List.mem_cons_of_mem _ hz)
    refine ⟨?_, fun z hz => ?_⟩
    · show (a :: setO l k y).Pairwise R
      rw [List.pairwise_cons]
      refine ⟨fun z hz => ?_, i1⟩
      rcases i2 z hz with e | e
      · rw [e]; exact hs _ _ (hy a List.mem_cons_self (hs _ _ (hp.1 x hx)))
      · exact hp.1 z e.1
    · rcases List.mem_cons.1 hz with e | e
      · rw [e]; exact .inr ⟨List.mem_cons_self, hs _ _ (hp.1 x hx)⟩
      · rcases i2 z e with g | g
        · exact .inl g
        · exact .inr ⟨List.mem_cons_of_mem _ g.1, g.2⟩
/-- A row of cells. -/
def rowO (E : TypeId) (vs : List Value) : Obj → Prop := fun o => o = .cells vs.toArray E (0, 0)
/-- A slice that grows. -/
structure SlO where
  a : Option Addr
  c : Nat
  E : TypeId
  vs : List Value
abbrev Kn := List (Nat × (Obj → Prop))
/-- Since w0 the call made the blocks of l and the slices of s, which lie apart; all else is as it was. -/
structure HH (w0 w : World) (l : Kn) (s : List SlO) : Prop where
  below : Below w0.heap.size w0 w
  blk : ∀ x ∈ l, w0.heap.size ≤ x.1 ∧ ∃ o, w.heap[x.1]? = some o ∧ x.2 o
  own : ∀ x ∈ s, Own w w0.heap.size x.E x.a x.c x.vs
  nd1 : l.Pairwise fun x y => x.1 ≠ y.1
  nd2 : s.Pairwise fun x y => ∀ p q, x.a = some p → y.a = some q → p.block ≠ q.block
  nd3 : ∀ x ∈ l, ∀ y ∈ s, ∀ q, y.a = some q → x.1 ≠ q.block
namespace HH
variable {w0 w w' : World} {l : Kn} {s : List SlO}
theorem start (w : World) : HH w w [] [] := ⟨Below.refl _ _, (fun x h => by cases h), (fun x h => by cases h), List.Pairwise.nil, List.Pairwise.nil, (fun x h => by cases h)⟩
theorem lt (h : HH w0 w l s) {x : Nat × (Obj → Prop)} (hx : x ∈ l) : x.1 < w.heap.size := by
  obtain ⟨_, o, ho, _⟩ := h.blk x hx
  exact lt_of_heap ho
/-- A call that leaves all old blocks alone. -/
theorem call (h : HH w0 w l s) (hb : Below w.heap.size w w') : HH w0 w' l s :=
  ⟨h.below.trans (hb.mono h.below.size), fun x hx => by
    obtain ⟨h1, o, ho, hr⟩ := h.blk x hx
    exact ⟨h1, o, (hb.block _ (lt_of_heap ho)).trans ho, hr⟩, fun x hx => (h.own x hx).later hb (Nat.le_refl _), h.nd1, h.nd2, h.nd3⟩
theorem drew (h : HH w0 w l s) : HH w0 w.drew l s := h.call (Below.refl _ _).drew
theorem drewN (h : HH w0 w l s) (n : Nat) : HH w0 (w.drewN n) l s := h.call (below_drewNN (Below.refl _ _) n)
/-- A block more. -/
theorem add (h : HH w0 w l s) (hb : Below w.heap.size w w') {b : Nat} {R : Obj → Prop} {o : Obj} (hlo : w.heap.size ≤ b) (ho : w'.heap[b]? = some o) (hr : R o) : HH w0 w' (l ++ [(b, R)]) s := by
  have h' := h.call hb
  refine ⟨h'.below, fun x hx => ?_, h'.own, ?_, h.nd2, fun x hx y hy q hq => ?_⟩
  · rcases List.mem_append.1 hx with e | e
    · exact h'.blk x e
    · obtain rfl := List.mem_singleton.1 e
      exact ⟨Nat.le_trans h.below.size hlo, o, ho, hr⟩
  · rw [List.pairwise_append]
    refine ⟨h.nd1, List.pairwise_singleton _ _, fun x hx y hy => ?_⟩
    obtain rfl := List.mem_singleton.1 hy
    have := h.lt hx
    show x.1 ≠ b
    omega
  · rcases List.mem_append.1 hx with e | e
    · exact h.nd3 x e y hy q hq
    · obtain rfl := List.mem_singleton.1 e
      have := ((h.own y hy).lt hq).2
      show b ≠ q.block
      omega
theorem addRow (h : HH w0 w l s) (hb : Below w.heap.size w w') {b : Nat} {E : TypeId} {vs : List Value} (hlo : w.heap.size ≤ b) (hr : Row w' b E vs) : HH w0 w' (l ++ [(b, rowO E vs)]) s := h.add hb hlo hr rfl
theorem alloc (h : HH w0 w l s) (cs : Array Value) (E : TypeId) {b : Nat} (hb : b = w.heap.size) {vs : List Value} (hv : cs.toList = vs) : HH w0 (w.alloc (.cells cs E)) (l ++ [(b, rowO E vs)]) s := by
  subst hb; subst hv
  exact h.addRow ((Below.refl _ _).alloc (Nat.le_refl _) _) (Nat.le_refl _) (Row.new w cs E)
/-- A slice more. -/
theorem addSl (h : HH w0 w l s) (hb : Below w.heap.size w w') {a : Option Addr} {c : Nat} {E : TypeId} {vs : List Value} (ho : Own w' w.heap.size E a c vs) : HH w0 w' l (s ++ [⟨a, c, E, vs⟩]) := by
  have h' := h.call hb
  refine ⟨h'.below, h'.blk, fun x hx => ?_, h.nd1, ?_, fun x hx y hy q hq => ?_⟩
  · rcases List.mem_append.1 hx with e | e
    · exact h'.own x e
    · obtain rfl := List.mem_singleton.1 e
      exact ho.mono h.below.size
  · rw [List.pairwise_append]
    refine ⟨h.nd2, List.pairwise_singleton _ _, fun x hx y hy p q hp hq => ?_⟩
    obtain rfl := List.mem_singleton.1 hy
    have h1 := ((h.own x hx).lt hp).2
    have h2 := (ho.lt hq).1
    omega
  · rcases List.mem_append.1 hy with e | e
    · exact h.nd3 x hx y e q hq
    · obtain rfl := List.mem_singleton.1 e
      have h1 := h.lt hx
      have h2 := (ho.lt hq).1
      omega
theorem addNil (h : HH w0 w l s) (E : TypeId) : HH w0 w l (s ++ [⟨none, 0, E, []⟩]) := h.addSl (Below.refl _ _) (Own.nil _ _ _)
/-- One block turns. -/
theorem upd (h : HH w0 w l s) {k b : Nat} {R R' : Obj → Prop} {o : Obj} (hk : nthO l k = some (b, R)) (hos : w'.os = w.os) (htp : w'.tape = w.tape) (hop : w'.output = w.output) (hsz : w.heap.size ≤ w'.heap.size)
    (hblk : ∀ i, i < w.heap.size → i ≠ b → w'.heap[i]? = w.heap[i]?) (ho : w'.heap[b]? = some o) (hr : R' o) : HH w0 w' (setO l k (b, R')) s := by
  have hm := nthO_mem hk
  have hlo := (h.blk _ hm).1
  obtain ⟨p1, p2⟩ := setO_pair (R := fun (x y : Nat × (Obj → Prop)) => x.1 ≠ y.1) (fun _ _ h e => h e.symm) (y := (b, R')) h.nd1 hk (fun z _ hz => hz)
  refine ⟨h.below.trans ⟨hos, htp, hop, hsz, fun i hi => hblk i (by have := h.below.size; omega) (by have : w0.heap.size ≤ b := hlo; omega)⟩, fun x hx => ?_, fun x hx => ?_, p1, h.nd2, fun x hx y hy q hq => ?_⟩
  · rcases p2 x hx with e | ⟨e1, e2⟩
    · subst e; exact ⟨hlo, o, ho, hr⟩
    · obtain ⟨h1, o', ho', hr'⟩ := h.blk x e1
      exact ⟨h1, o', (hblk _ (lt_of_heap ho') (fun e => e2 e.symm)).trans ho', hr'⟩
  · refine (h.own x hx).kept fun q hq => hblk _ ((h.own x hx).lt hq).2 fun e => ?_
    exact h.nd3 _ hm x hx q hq e.symm
  · rcases p2 x hx with e | ⟨e1, _⟩
    · subst e; exact h.nd3 _ hm y hy q hq
    · exact h.nd3 x e1 y hy q hq
theorem row (h : HH w0 w l s) {k b : Nat} {E : TypeId} {vs : List Value} (hk : nthO l k = some (b, rowO E vs)) : Row w b E vs := by
  obtain ⟨_, o, ho, hr⟩ := h.blk _ (nthO_mem hk)
  have hr : o = .cells vs.toArray E (0, 0) := hr
  rw [hr] at ho; exact ho
theorem obj (h : HH w0 w l s) {k b : Nat} {R : Obj → Prop} (hk : nthO l k = some (b, R)) : w0.heap.size ≤ b ∧ b < w.heap.size ∧ ∃ o, w.heap[b]? = some o ∧ R o :=
  ⟨(h.blk _ (nthO_mem hk)).1, h.lt (nthO_mem hk), (h.blk _ (nthO_mem hk)).2⟩
theorem cell (h : HH w0 w l s) {k b i : Nat} {E : TypeId} {vs : List Value} {v : Value} (hk : nthO l k = some (b, rowO E vs)) (hv : vs[i]? = some v) : w.cell? ⟨b, i, none⟩ = some v := (h.row hk).cell i ▸ hv
theorem frozen (h : HH w0 w l s) {k b : Nat} {E : TypeId} {vs : List Value} (hk : nthO l k = some (b, rowO E vs)) (i : Nat) : w.frozen? ⟨b, i, none⟩ = false := (h.row hk).frozen i
theorem int (h : HH w0 w l s) {k b : Nat} {E : TypeId} {xs : List Int} (hk : nthO l k = some (b, rowO E (ints xs))) (i : Nat) (hi : i < xs.length) : w.cell? ⟨b, i, none⟩ = some (.int .i64 (nth xs i)) := (h.row hk).int i hi
theorem bool (h : HH w0 w l s) {k b : Nat} {E : TypeId} {xs : List Bool} (hk : nthO l k = some (b, rowO E (bools xs))) (i : Nat) (hi : i < xs.length) : w.cell? ⟨b, i, none⟩ = some (.bool (bth xs i)) := (h.row hk).bool i hi
theorem set (h : HH w0 w l s) {k b : Nat} {E : TypeId} {vs : List Value} (hk : nthO l k = some (b, rowO E vs)) (i : Nat) (u : Value) : HH w0 (w.setCell ⟨b, i, none⟩ u) (setO l k (b, rowO E (vs.set i u))) s := by
  have hr := (h.row hk).set i u
  exact h.upd hk rfl rfl rfl (by simp) (fun j _ hj => Below.heap_setCell w ⟨b, i, none⟩ u j hj) hr rfl
theorem setInt (h : HH w0 w l s) {k b : Nat} {E : TypeId} {xs : List Int} (hk : nthO l k = some (b, rowO E (ints xs))) (i : Nat) (x : Int) : HH w0 (w.setCell ⟨b, i, none⟩ (.int .i64 x)) (setO l k (b, rowO E (ints (xs.set i x)))) s := by
  have := h.set hk i (.int .i64 x)
  rwa [ints_set] at this
theorem setBool (h : HH w0 w l s) {k b : Nat} {E : TypeId} {xs : List Bool} (hk : nthO l k = some (b, rowO E (bools xs))) (i : Nat) (x : Bool) : HH w0 (w.setCell ⟨b, i, none⟩ (.bool x)) (setO l k (b, rowO E (bools (xs.set i x)))) s := by
  have := h.set hk i (.bool x)
  rwa [bools_set] at this
/-- One slice turns: an append. -/
theorem grow (h : HH w0 w l s) {k : Nat} {a : Option Addr} {c : Nat} {E : TypeId} {vs : List Value} (hk : nthO s k = some ⟨a, c, E, vs⟩) {a' : Option Addr} {c' : Nat} {vs' : List Value} (ho : Own w' w0.heap.size E a' c' vs') (ht : Turned w w' a)
    (hf : ∀ x, a' = some x → (w.heap.size ≤ x.block ∨ ∃ y, a = some y ∧ x = y)) : HH w0 w' l (setO s k ⟨a', c', E, vs'⟩) := by
  have hm := nthO_mem hk
  have hmo := h.own _ hm
  obtain ⟨p1, p2⟩ := setO_pair (R := fun (x y : SlO) => ∀ p q, x.a = some p → y.a = some q → p.block ≠ q.block) (fun _ _ h p q hp hq e => h q p hq hp e.symm) (y := ⟨a', c', E, vs'⟩) h.nd2 hk (fun z hz hR p q hp hq => by
    rcases hf p hp with e | ⟨y, hy, rfl⟩
    · have := ((h.own z hz).lt hq).2; omega
    · exact hR _ q hy hq)
  refine ⟨h.below.trans (ht.below h.below.size fun x hx => (hmo.lt hx).1), fun x hx => ?_, fun x hx => ?_, h.nd1, p1, fun x hx y hy q hq => ?_⟩
  · obtain ⟨h1, o, ho', hr⟩ := h.blk x hx
    exact ⟨h1, o, (ht.block _ (lt_of_heap ho') (fun q hq e => h.nd3 x hx _ hm q hq e.symm)).trans ho', hr⟩
  · rcases p2 x hx with e | ⟨e1, e2⟩
    · subst e; exact ho
    · refine (h.own x e1).kept fun q hq => ht.block _ ((h.own x e1).lt hq).2 fun p hp => e2 p q hp hq
  · rcases p2 y hy with e | ⟨e1, _⟩
    · subst e
      rcases hf q hq with g | ⟨z, hz, rfl⟩
      · have := h.lt hx; omega
      · exact h.nd3 x hx _ hm _ hz
    · exact h.nd3 x hx y e1 q hq
theorem sl (h : HH w0 w l s) {k : Nat} {x : SlO} (hk : nthO s k = some x) : Own w w0.heap.size x.E x.a x.c x.vs := h.own x (nthO_mem hk)
/-- .. a store into it. -/
theorem slSet (h : HH w0 w l s) {k b off c : Nat} {E : TypeId} {vs : List Value} (hk : nthO s k = some ⟨some ⟨b, off, none⟩, c, E, vs⟩) (i : Nat) (hi : i < vs.length) (u : Value) : HH w0 (w.setCell ⟨b, off + i, none⟩ u) l (setO s k ⟨some ⟨b, off, none⟩, c, E, vs.set i u⟩) := by
  refine h.grow hk ((h.sl hk).set i hi u) ⟨rfl, rfl, rfl, by simp, fun j _ hj => Below.heap_setCell w _ u j fun e => hj _ rfl e.symm⟩ fun x hx => .inr ⟨x, hx, rfl⟩
/-- What came in. -/
theorem came (h : HH w0 w l s) {a : Option Addr} {xs : List Int} (hx : IntsAt w0 a xs) : IntsAt w a xs := hx.later h.below
end HH
namespace HH
variable {w0 w w' : World} {l : Kn} {s : List SlO}
theorem forgetK {l' : Kn} (h : HH w0 w l s) (hs : l'.Sublist l) : HH w0 w l' s :=
  ⟨h.below, fun x hx => h.blk x (hs.subset hx), h.own, h.nd1.sublist hs, h.nd2, fun x hx => h.nd3 x (hs.subset hx)⟩
end HH
end Go.Proofs.YtmjoijfafachhaaGreatDoor


namespace Go.Proofs.YtmjoijfafachhaaGreatDoor
open Go Go.RowKit
theorem heap_setCells_row (b : Nat) (E : TypeId) : ∀ (us : List Value) (o : Nat) (w : World) (cur : Array Value), w.heap[b]? = some (.cells cur E (0, 0)) → o + us.length ≤ cur.size →
    ∃ cur', (w.setCells b o us).heap[b]? = some (.cells cur' E (0, 0)) ∧ cur'.size = cur.size ∧ ∀ j, cur'[j]? = if o ≤ j ∧ j < o + us.length then us[j - o]? else cur[j]?
  | [], o, w, cur, h, _ => ⟨cur, h, rfl, fun j => by rw [if_neg (by simp)]⟩
  | u :: us, o, w, cur, h, hl => by
    simp only [List.length_cons] at hl
    obtain ⟨cur', h1, h2, h3⟩ := heap_setCells_row b E us (o + 1) (w.setCell ⟨b, o, none⟩ u) (cur.setIfInBounds o u) (heap_setCell_same w b o cur E u h) (by simp; omega)
    refine ⟨cur', h1, by rw [h2]; simp, fun j => ?_⟩
    rw [h3 j, Array.getElem?_setIfInBounds]
    simp only [List.length_cons]
    by_cases e : o = j
    · subst e
      rw [if_neg (by omega), if_pos rfl, if_pos (by omega), if_pos (by omega)]
      simp
    · rw [if_neg e]
      by_cases g : o + 1 ≤ j ∧ j < o + 1 + us.length
      · rw [if_pos g, if_pos (by omega), show j - o = (j - (o + 1)) + 1 from by omega, List.getElem?_cons_succ]
      · rw [if_neg g, if_neg (by omega)]
theorem size_setCells (b : Nat) : ∀ (us : List Value) (o : Nat) (w : World), (w.setCells b o us).heap.size = w.heap.size ∧ (w.setCells b o us).os = w.os ∧ (w.setCells b o us).tape = w.tape ∧ (w.setCells b o us).output = w.output ∧ ∀ k, k ≠ b → (w.setCells b o us).heap[k]? = w.heap[k]?
  | [], _, _ => ⟨rfl, rfl, rfl, rfl, fun _ _ => rfl⟩
  | u :: us, o, w => by
    obtain ⟨h1, h2, h3, h4, h5⟩ := size_setCells b us (o + 1) (w.setCell ⟨b, o, none⟩ u)
    exact ⟨h1.trans (by simp), h2, h3, h4, fun k hk => (h5 k hk).trans (heap_setCell_other w ⟨b, o, none⟩ k u hk)⟩
/-- 'append(s, xs...)', s the call's own; elements of k cells; m elements that are read. -/
theorem run_append_wide {P : Program} (w : World) (B : Nat) (t tx ty E : TypeId) (i : TypeInfo) (z : Value) (bytes k : Nat) (h1 : P.underlying t = some (.slice E)) (h1x : P.underlying tx = some (.slice E)) (h2 : P.info? E = some i) (h3 : i.zero = some z) (h4 : i.size = k) (hk : 0 < k) (h5 : i.bytes = bytes) (hz : z.cells.size = k)
    (a : Option Addr) (n c : Nat) (vs : List Value) (hn : vs.length = n * k) (hnc : n ≤ c) (hown : Own w B E a (c * k) vs) (ax : Option Addr) (m cx : Nat) (us : List Value) (hm : us.length = m * k) (hus : VAt w ax us) (hu1 : ∀ u ∈ us, u.oneCell' = true)
    (hbytes : (n + m) * bytes ≤ 140737488355328) (h63 : n + m ≤ 9223372036854775807) (hB : B ≤ w.heap.size) :
    ∃ a' c' w', (Builtin.append_ #[t, tx] ty #[.slice a n c, .slice ax m cx]).run P w = .ok (.slice a' (n + m) c') w' ∧ n + m ≤ c' ∧ Own w' B E a' (c' * k) (vs ++ us) ∧ Turned w w' a ∧
      (∀ x, a' = some x → (w.heap.size ≤ x.block ∨ ∃ y, a = some y ∧ x = y)) := by
  have hs : Src P i.size tx (.slice ax m cx) m us w := by
    cases ax with
    | none =>
      have : us = [] := by
        cases us with
        | nil => rfl
        | cons u us => obtain ⟨_, _, h, _⟩ := hus 0 u rfl; cases h
      subst this
      have hm0 : m = 0 := by
        rcases Nat.eq_zero_or_pos m with e | e
        · exact e
        · have := Nat.mul_pos e hk; simp at hm; omega
      subst hm0
      exact Src.ofNil w h1x cx
    | some ad =>
      refine Src.ofSlice w h1x ad m cx us (by rw [h4]; exact hm) (fun j v hj => ?_) hu1
      obtain ⟨b, off, he, hc⟩ := hus j v hj
      cases he
      rw [Addr.add_lit]; exact hc
  subst h5
  by_cases hroom : n + m ≤ c
  · have hroom2 : (n + m) * k ≤ c * k := Nat.mul_le_mul_right k hroom
    rw [Nat.add_mul] at hroom2
    rcases hown with ⟨rfl, rfl, hc0⟩ | ⟨b, off, cur, rfl, g2, g3, g4, g5, g6⟩
    · have hc1 : c = 0 := by
        rcases Nat.eq_zero_or_pos c with e | e
        · exact e
        · have := Nat.mul_pos e hk; omega
      subst hc1
      obtain rfl : m = 0 := by omega
      obtain rfl : n = 0 := by omega
      have h0 : us = [] := List.eq_nil_of_length_eq_zero (by omega)
      subst h0
      have hr : (Builtin.append_ #[t, tx] ty #[.slice none 0 0, .slice ax 0 cx]).run P w = .ok (.slice none 0 0) w := by
        have hl := hs.len
        have hc := hs.cells
        simp [Builtin.append_, run_underlying h1, run_underlying h1x, sizeOf, typeInfo, h2, hl, hc]
      exact ⟨none, 0, w, hr, Nat.le_refl _, by rw [Nat.zero_mul]; exact Own.nil _ _ _, ⟨rfl, rfl, rfl, Nat.le_refl _, fun _ _ _ => rfl⟩, fun x hx => by cases hx⟩
    · have hcell : ∀ j, j < us.length → (w.cell? ⟨b, off + n * i.size + j, none⟩).isSome = true := by
        intro j hj
        rw [cell_of_row w b _ cur E (0, 0) g3]
        have : off + n * i.size + j < cur.size := by rw [h4]; omega
        simp [this]
      have hr := run_append_room_src (P := P) w t tx ty E i h1 h2 b off n c (.slice ax m cx) m us hs hroom hcell (fun j _ => frozen_of_row w b _ cur E g3)
      rw [h4] at hr
      obtain ⟨cur', k1, k2, k3⟩ := heap_setCells_row b E us (off + n * k) w cur g3 (by omega)
      obtain ⟨s1, s2, s3, s4, s5⟩ := size_setCells b us (off + n * k) w
      refine ⟨_, _, _, hr, hroom, ?_, ⟨s2, s3, s4, by omega, fun k _ hk => s5 k (fun e => hk _ rfl e.symm)⟩, fun x hx => .inr ⟨_, rfl, (by simpa using hx.symm)⟩⟩
      refine .inr ⟨b, off, cur', rfl, g2, k1, by rw [List.length_append]; omega, by omega, fun j v hj => ?_⟩
      rw [k3, List.getElem?_append] at *
      split at hj
      · rename_i hlt
        rw [if_neg (by omega)]; exact g6 j v hj
      · rename_i hge
        have hjl := (List.getElem?_eq_some_iff.1 hj).1
        rw [if_pos (by omega), show off + j - (off + n * k) = j - vs.length from by omega]
        exact hj
  · have hold : ∃ ys : List Value, ys = vs ∧ (Builtin.firstCells i.size n (.slice a n c)).run P w.drew = .ok ys.toArray w.drew := by
      rcases hown with ⟨rfl, rfl, hc0⟩ | ⟨b, off, cur, rfl, g2, g3, g4, g5, g6⟩
      · have hn0 : n = 0 := by
          rcases Nat.eq_zero_or_pos n with e | e
          · exact e
          · have := Nat.mul_pos e hk; simp at hn; omega
        subst hn0
        exact ⟨[], rfl, run_firstCells_none _ _ _ _ _⟩
      · refine ⟨vs, rfl, run_firstCells_some w.drew i.size n ⟨b, off, none⟩ n c vs (by rw [h4]; exact hn) (fun j v hj => ?_)⟩
        rw [Addr.add_lit]
        show w.cell? ⟨b, off + j, none⟩ = some v
        rw [cell_of_row w b _ cur E (0, 0) g3]
        exact g6 j v hj
    obtain ⟨ys, rfl, holds⟩ := hold
    have hr := run_append_grow_src (P := P) w t tx ty E i z h1 h2 h3 a n c ys holds (.slice ax m cx) m us hs (by omega) (by omega) (growslice_fits (by omega) hbytes)
    have hge := grownCap_ge w (n + m) c E
    refine ⟨_, _, _, hr, hge, ?_, ⟨rfl, rfl, rfl, by simp, fun k hk _ => Below.heap_alloc w.drew _ k hk⟩, fun x hx => by simp only [Option.some.injEq] at hx; subst hx; exact .inl (Nat.le_refl _)⟩
    have hge2 : (n + m) * k ≤ grownCap w (n + m) c E * k := Nat.mul_le_mul_right k hge
    have hge3 : (grownCap w (n + m) c E - (n + m)) * k = grownCap w (n + m) c E * k - (n + m) * k := Nat.sub_mul _ _ _
    rw [Nat.add_mul] at hge2 hge3
    refine .inr ⟨_, 0, _, rfl, by simpa using hB, heap_alloc_new w.drew _, by rw [List.length_append]; omega, ?_, ?_⟩
    · simp [size_zeroCells, hz]; omega
    · intro j v hj
      have hlt : j < (ys ++ us).length := (List.getElem?_eq_some_iff.1 hj).1
      rw [Nat.zero_add, Array.getElem?_append_left (by simpa using hlt)]
      simpa using hj
theorem replicate_ints (n : Nat) : (Array.replicate n (Value.int .i64 0)).toList = ints (List.replicate n 0) := by simp [ints]
theorem run_mk1 {T E : TypeId} {z : Value} {bytes : Nat} (hu : Tryz.prog.underlying T = some (.slice E)) (hi : (Tryz.prog.info? E).map (fun i => (i.zero, i.size, i.bytes)) = some (some z, 1, bytes)) (hz : z.cells = #[z]) (n c : Nat) (hnc : n ≤ c) (hb : bytes ≤ 24) (hn : c ≤ 1000000000) (W : World) :
    (Instr.makeSlice T (.int .i64 (n : Int)) (.int .i64 (c : Int))).run Tryz.prog W = .ok (.slice (some ⟨W.heap.size, 0, none⟩) n c) (W.alloc (.cells (Array.replicate c z) E)) := by
  obtain ⟨i0, hi0, hz0, hz1, hz2⟩ := info_parts hi
  have hbb : (bytes : Int) * (c : Int) ≤ 281474976710656 := by
    have h : bytes * c ≤ 24 * 1000000000 := Nat.mul_le_mul hb hn
    have h2 : ((bytes * c : Nat) : Int) ≤ 281474976710656 := by omega
    rwa [Int.natCast_mul] at h2
  have hr := run_make (P := Tryz.prog) W T E i0 z hu hi0 hz0 .i64 .i64 n c (by omega) (by omega) (by rw [hz2]; exact hbb) (by omega)
  simp only [Int.toNat_natCast, hz1, Nat.mul_one] at hr
  have hm : madeCells z.cells c = Array.replicate c z := by
    apply Array.ext'
    rw [hz, toList_madeCells_one, Array.toList_replicate]
  rw [hm] at hr
  exact hr
theorem OwnRows.keptB {w w' : World} {B : Nat} {a : Option Addr} {c : Nat} {xss : List (List Int)} (h : OwnRows w B a c xss) (hk : ∀ b, B ≤ b → w'.heap[b]? = w.heap[b]?) : OwnRows w' B a c xss := by
  obtain ⟨vs, h1, h2, h3⟩ := h
  refine ⟨vs, h1.kept fun x hx => hk _ (h1.lt hx).1, h2, fun i v xs hv hx => ?_⟩
  obtain ⟨a', c', e, ho⟩ := h3 i v xs hv hx
  exact ⟨a', c', e, ho.kept fun x hx => hk _ (ho.lt hx).1⟩
theorem getD_some {α : Type} {l : List α} {i : Nat} {d : α} (h : i < l.length) : l[i]? = some (l.getD i d) := by simp [h]
theorem und45 : Tryz.prog.underlying 41 = some (.array 2 3) := by kernel_rfl
theorem part0 (W : World) (x y : Int) : (part 3 #[.int .i64 x, .int .i64 y] 0).run Tryz.prog W = .ok (.int .i64 x) W := by kernel_rfl
theorem part1 (W : World) (x y : Int) : (part 3 #[.int .i64 x, .int .i64 y] 1).run Tryz.prog W = .ok (.int .i64 y) W := by kernel_rfl
theorem size3 (W : World) : (sizeOf 3).run Tryz.prog W = .ok 1 W := by kernel_rfl
theorem run_eqPair' (d : Nat) (x y x' y' : Int) (W : World) : (Op.equalIn (d + 2) 41 (.agg #[.int .i64 x, .int .i64 y]) (.agg #[.int .i64 x', .int .i64 y'])).run Tryz.prog W = .ok (x == x' && y == y') W := by
  have e1 := run_equalIn_int (P := Tryz.prog) W d 3 .i64 .i64 x x' Tryz.underlying3
  have e2 := run_equalIn_int (P := Tryz.prog) W d 3 .i64 .i64 y y' Tryz.underlying3
  rw [Op.equalIn]
  simp only [Sem.run_bind, run_underlying und45, Result.andThen_ok, size3, Std.Legacy.Range.forIn_eq_forIn_range']
  rw [show List.range' 0 (Std.Legacy.Range.size [:2]) = [0, 1] from rfl]
  simp only [List.forIn_cons, List.forIn_nil, Sem.run_bind, Nat.zero_mul, Nat.one_mul, part0, Result.andThen_ok, e1]
  cases (x == x')
  · simp
  · simp only [Bool.not_true, Bool.false_eq_true, if_false, Sem.run_pure, Result.andThen_ok, part1, e2, Sem.run_bind]
    cases (y == y') <;> simp
theorem run_eqPair (x y x' y' : Int) (W : World) : (Op.equalIn 10000 41 (.agg #[.int .i64 x, .int .i64 y]) (.agg #[.int .i64 x', .int .i64 y'])).run Tryz.prog W = .ok (x == x' && y == y') W := run_eqPair' 9998 x y x' y' W
end Go.Proofs.YtmjoijfafachhaaGreatDoor


namespace Go.Proofs.YtmjoijfafachhaaGreatDoor
open Go Go.RowKit
theorem nthO_get {α : Type} : ∀ (l : List α) (i : Nat), nthO l i = l[i]?
  | [], _ => rfl
  | _ :: _, 0 => rfl
  | _ :: l, i + 1 => by show nthO l i = _; rw [nthO_get l i]; rfl
theorem setO_set {α : Type} : ∀ (l : List α) (i : Nat) (y : α), setO l i y = l.set i y
  | [], _, _ => rfl
  | _ :: _, 0, _ => rfl
  | x :: l, i + 1, y => by show x :: setO l i y = _; rw [setO_set l i y]; rfl
/-- Slices told by functions. -/
def gms (A : Nat → Option Addr) (C : Nat → Nat) (Z : Nat → List Int) (k : Nat) : List SlO := (List.range k).map fun m => ⟨A m, C m, 3, ints (Z m)⟩
def updF {α : Type} (f : Nat → α) (m : Nat) (x : α) : Nat → α := fun i => if i = m then x else f i
theorem gms_nth {A : Nat → Option Addr} {C : Nat → Nat} {Z : Nat → List Int} {k m : Nat} (h : m < k) : nthO (gms A C Z k) m = some ⟨A m, C m, 3, ints (Z m)⟩ := by rw [nthO_get]; simp [gms, h]
theorem gms_set {A : Nat → Option Addr} {C : Nat → Nat} {Z : Nat → List Int} {k m : Nat} (_ : m < k) (a : Option Addr) (c : Nat) (xs : List Int) : setO (gms A C Z k) m ⟨a, c, 3, ints xs⟩ = gms (updF A m a) (updF C m c) (updF Z m xs) k := by
  rw [setO_set]
  apply List.ext_getElem
  · simp [gms]
  · intro i h1 h2
    rw [List.getElem_set]
    simp only [gms, List.getElem_map, List.getElem_range, updF]
    by_cases e : m = i
    · subst e; simp
    · rw [if_neg e, if_neg (fun g => e g.symm), if_neg (fun g => e g.symm), if_neg (fun g => e g.symm)]
def gmV (A : Nat → Option Addr) (C : Nat → Nat) (Z : Nat → List Int) (k : Nat) : List Value := (List.range k).map fun m => .slice (A m) (Z m).length (C m)
theorem gmV_len (A : Nat → Option Addr) (C : Nat → Nat) (Z : Nat → List Int) (k : Nat) : (gmV A C Z k).length = k := by simp [gmV]
theorem gmV_get {A : Nat → Option Addr} {C : Nat → Nat} {Z : Nat → List Int} {k m : Nat} (h : m < k) : (gmV A C Z k)[m]? = some (.slice (A m) (Z m).length (C m)) := by simp [gmV, h]
theorem gmV_set {A : Nat → Option Addr} {C : Nat → Nat} {Z : Nat → List Int} {k m : Nat} (a : Option Addr) (c : Nat) (xs : List Int) : (gmV A C Z k).set m (.slice a xs.length c) = gmV (updF A m a) (updF C m c) (updF Z m xs) k := by
  apply List.ext_getElem
  · simp [gmV]
  · intro i h1 h2
    rw [List.getElem_set]
    simp only [gmV, List.getElem_map, List.getElem_range, updF]
    by_cases e : m = i
    · subst e; simp
    · rw [if_neg e, if_neg (fun g => e g.symm), if_neg (fun g => e g.symm), if_neg (fun g => e g.symm)]
/-- The crossings ahead of c that bear number p. -/
def clsP (part : List Int) (c p : Nat) : List Nat := (List.range c).filter fun d => decide (nth part d = (p : Int))
theorem clsP_step (part : List Int) (c p : Nat) (h : nth part c = (p : Int)) : (fun q => nats (clsP part (c + 1) q)) = updF (fun q => nats (clsP part c q)) p (nats (clsP part c p) ++ [(c : Int)]) := by
  funext q
  unfold updF clsP
  rw [List.range_succ, List.filter_append]
  by_cases e : q = p
  · rw [if_pos e, e, nats_snoc]; simp [h]
  · rw [if_neg e]
    have : ¬ nth part c = (q : Int) := by omega
    simp [this]
theorem clsP_len (part : List Int) (c p : Nat) : (clsP part c p).length ≤ c := by
  have := List.length_filter_le (fun d => decide (nth part d = (p : Int))) (List.range c)
  rwa [List.length_range] at this
theorem rowsOf_gms {w0 w : World} {l : Kn} {A : Nat → Option Addr} {C : Nat → Nat} {Z : Nat → List Int} {k : Nat} {s : List SlO} (h : HH w0 w l (s ++ gms A C Z k)) : RowsOf w w0.heap.size (gmV A C Z k) ((List.range k).map Z) := by
  refine ⟨by simp [gmV], fun i v xs h1 h2 => ?_⟩
  have hi : i < k := by have := (List.getElem?_eq_some_iff.1 h2).1; simpa using this
  rw [gmV_get hi] at h1
  cases h1
  have e : Z i = xs := by simpa [hi] using h2
  subst e
  exact ⟨A i, C i, rfl, h.own _ (List.mem_append_right _ (by unfold gms; exact List.mem_map.2 ⟨i, List.mem_range.2 hi, rfl⟩))⟩
theorem HH.addNils {w0 w : World} {l : Kn} {s : List SlO} (h : HH w0 w l s) (k : Nat) : HH w0 w l (s ++ gms (fun _ => none) (fun _ => 0) (fun _ => []) k) := by
  induction k with
  | zero => simpa [gms] using h
  | succ k ih =>
    have := ih.addNil 3
    unfold gms at this ⊢
    rw [List.range_succ, List.map_append, ← List.append_assoc]
    exact this
set_option maxRecDepth 100000 in
set_option maxHeartbeats 4000000 in
theorem graph_any (S M : List Int) (L : Int) (aS aM : Option Addr) (cS cM : Nat) (w : World) (hv : vldB S M L = true) (hS : IntsAt w aS S) (hM : IntsAt w aM M) :
    Calls Tryz.prog 37 #[.agg #[.slice aS S.length cS, .slice aM M.length cM, .int .i64 L]] w fun e w' => ∃ a c, e = .returned (.slice a (grpOf M S.length).length c) ∧ OwnRows w' w.heap.size a c ((grpOf M S.length).map nats) ∧ Below w.heap.size w w' := by
  have hs := vldB_shape hv
  have hm := hs.mates
  have hfw := hs.few
  obtain ⟨part, parts, hlb, hLb⟩ := label_spec hm (by omega)
  have hge := groups_eq hLb (label_ordered hm (by omega) hlb)
  have HV : Hid (∀ W', Below w.heap.size w W' → Calls Tryz.prog 15 #[.agg #[.slice aS S.length cS, .slice aM M.length cM, .int .i64 L]] W' fun e w' => e = .returned (.bool true) ∧ Below W'.heap.size W' w') := Lib.hid fun W' h => by
    have g := valid_any S M L aS aM cS cM W' (by omega) (by rw [hs.len]; omega) (hS.later h) (hM.later h)
    rw [hv] at g; exact g
  have HLa : Hid (∀ W', Below w.heap.size w W' → Calls Tryz.prog 43 #[.agg #[.slice aS S.length cS, .slice aM M.length cM, .int .i64 L]] W' fun e w' => ∃ a c, e = .returned (.tuple #[.slice a part.length c, .int .i64 (parts : Int)]) ∧ Below W'.heap.size W' w' ∧ Own w' W'.heap.size 3 a c (ints part)) := Lib.hid fun W' h => label_any S M L aS aM cS cM W' 1000000 part (parts : Int) (by omega) (by omega) hs.len (hM.later h) hs.range hlb
  have HP : Hid (∀ c, c < part.length → ∃ p : Nat, p < parts ∧ nth part c = (p : Int)) := Lib.hid fun c hc => by
    have := hLb.range c (by rw [← hLb.len]; exact hc)
    exact ⟨(nth part c).toNat, by omega, by omega⟩
  have hpn := hLb.le
  have HG : Hid ((grpOf M S.length).map nats = (List.range parts).map fun p => nats (clsP part part.length p)) := Lib.hid (by rw [← hge, List.map_map, hLb.len]; rfl)
  have HGl : Hid ((grpOf M S.length).length = parts) := Lib.hid (by have := congrArg List.length HG.out; simpa using this)
  rw [HG.out, HGl.out]
  have hpl := hLb.len
  have hpl2 : part.length ≤ 64 := by omega
  have hmk := run_mk1 (T := 64) (z := .slice none 0 0) (bytes := 24) Tryz.underlying64 Tryz.info22 rfl parts parts (Nat.le_refl _) (by omega) (by omega)
  obtain ⟨i0, hi0, hz0, hz1, hz2⟩ := info_parts Tryz.info3
  have H0 := Lib.hid ((HH.start w).alloc #[.slice aS S.length cS, .slice aM M.length cM, .int .i64 L] 24 rfl rfl)
  clear hs hm hv hS hM hlb hLb hge HG HGl hpl
  generalize S.length = n at *
  generalize M.length = N at *
  go_enter Tryz.func37, Tryz.ntmps37
  go_wp2_with fail
  refine (HV.out _ H0.out.below).mono ?_
  rintro e w1 ⟨rfl, hb⟩
  have H1 := Lib.hid (H0.out.call hb)
  clear hb H0 HV
  have c1 := H1.out.cell (k := 0) (i := 0) rfl rfl
  have c2 := H1.out.cell (k := 0) (i := 1) rfl rfl
  have c3 := H1.out.cell (k := 0) (i := 2) rfl rfl
  go_wp2_with fail
  clear c1 c2 c3
  refine (HLa.out _ H1.out.below).mono ?_
  rintro e w2 ⟨aP, cP, rfl, hb, ho⟩
  have H2 := Lib.hid (H1.out.addSl hb ho)
  clear hb ho H1 HLa
  have H3 := Lib.hid (H2.out.alloc (Array.replicate parts (.slice none 0 0)) 22 rfl (vs := gmV (fun _ => none) (fun _ => 0) (fun q => nats (clsP part 0 q)) parts) (by
    rw [Array.toList_replicate]
    apply List.ext_getElem
    · simp [gmV]
    · intro i h1 h2; simp [gmV, clsP, nats]))
  go_wp2_with fail
  have h4 := H3.out.addNils parts
  have H4 : Hid (HH w (w2.alloc (Obj.cells (Array.replicate parts (Value.slice none 0 0)) 22)) [(w.heap.size, rowO 24 [.slice aS n cS, .slice aM N cM, .int .i64 L]), (w2.heap.size, rowO 22 (gmV (fun _ => none) (fun _ => 0) (fun q => nats (clsP part 0 q)) parts))] (⟨aP, cP, 3, ints part⟩ :: gms (fun _ => none) (fun _ => 0) (fun q => nats (clsP part 0 q)) parts)) := Lib.hid h4
  clear h4 H3 H2 hmk
  generalize w2.heap.size = og at *
  go_loopg [20] part.length (fun g v wr => ∃ (c : Nat) (A : Nat → Option Addr) (C : Nat → Nat), c ≤ part.length ∧ g = part.length - c ∧ v = .int .i64 c ∧ HH w wr [(w.heap.size, rowO 24 [.slice aS n cS, .slice aM N cM, .int .i64 L]), (og, rowO 22 (gmV A C (fun q => nats (clsP part c q)) parts))] (⟨aP, cP, 3, ints part⟩ :: gms A C (fun q => nats (clsP part c q)) parts))
  case atStart => exact ⟨0, _, _, Nat.zero_le _, rfl, rfl, H4.out⟩
  case round =>
    obtain ⟨c, A, C, hc, rfl, rfl, hh⟩ := hrel
    have Hh := Lib.hid hh
    clear hh H4
    by_cases hcl : c < part.length
    · obtain ⟨p, hp, hpv⟩ := HP.out c hcl
      obtain ⟨b2, o2, rfl, _, _, hcR, _⟩ := (Hh.out.sl (k := 0) rfl).open (by show 0 < (ints part).length; rw [ints_length]; omega)
      have hcx := hcR c _ (ints_get part c hcl)
      rw [hpv] at hcx
      clear hcR
      have hcg := Hh.out.cell (k := 1) (i := p) rfl (gmV_get hp)
      have HZ := Lib.hid (clsP_step part c p hpv)
      have hzl := clsP_len part c p
      have Ha0 := Lib.hid (Hh.out.call ((Below.refl _ _).alloc (Nat.le_refl _) (.cells #[.int .i64 (c : Int)] 3)))
      have Hc0 : Hid ((wr.alloc (.cells #[.int .i64 (c : Int)] 3)).cell? ⟨wr.heap.size, 0, none⟩ = some (.int .i64 (c : Int))) := Lib.hid ((Row.new wr #[.int .i64 (c : Int)] 3).cell 0)
      have Hl1 : Hid (w.heap.size ≤ (wr.alloc (.cells #[.int .i64 (c : Int)] 3)).heap.size) := Lib.hid Ha0.out.below.size
      have Hsl : Hid (Own (wr.alloc (.cells #[.int .i64 (c : Int)] 3)) w.heap.size 3 (A p) (C p) (ints (nats (clsP part c p)))) := Lib.hid (Ha0.out.sl (k := p + 1) (gms_nth hp))
      have Hsn : Hid ((ints (nats (clsP part c p))).length = (clsP part c p).length) := Lib.hid (by rw [ints_length, nats_length])
      rw [nats_length] at hcg
      have e1 : decide ((p : Int) < 0) = false := decide_eq_false (by omega)
      have e2 : decide ((parts : Int) ≤ (p : Int)) = false := decide_eq_false (by omega)
      have e3 : decide (parts ≤ p) = false := decide_eq_false (by omega)
      clear hpv
      have HGr : Hid (∀ (A3 : Option Addr) (e3 : Nat) (w7 : World), Own w7 w.heap.size 3 A3 e3 (ints (nats (clsP part c p)) ++ [.int .i64 (c : Int)]) → Turned (wr.alloc (.cells #[.int .i64 (c : Int)] 3)) w7 (A p) → (∀ x, A3 = some x → ((wr.alloc (.cells #[.int .i64 (c : Int)] 3)).heap.size ≤ x.block ∨ ∃ y, A p = some y ∧ x = y)) →
          HH w w7 [(w.heap.size, rowO 24 [.slice aS n cS, .slice aM N cM, .int .i64 L]), (og, rowO 22 (gmV A C (fun q => nats (clsP part c q)) parts))] (⟨some ⟨b2, o2, none⟩, cP, 3, ints part⟩ :: gms (updF A p A3) (updF C p e3) (fun q => nats (clsP part (c + 1) q)) parts)) := Lib.hid fun A3 e3 w7 h1 h2 h3 => by
        have h := Ha0.out.grow (k := p + 1) (gms_nth hp) h1 h2 h3
        have e := gms_set (A := A) (C := C) (Z := fun q => nats (clsP part c q)) hp A3 e3 (nats (clsP part c p) ++ [(c : Int)])
        rw [HZ.out, ← e, ← ints_snoc]
        exact h
      go_wp2_with (with_reducible refine wpList_append_one rfl (.tmp 30) (.tmp 32) 22 rfl w.heap.size 3 i0 (.int .i64 0) 8 Tryz.underlying22 hi0 hz0 hz1 hz2 rfl (A p) (clsP part c p).length (C p) (ints (nats (clsP part c p))) rfl Hsn.out Hsl.out _ 1 (.int .i64 (c : Int)) rfl Hc0.out rfl (by omega) (by omega) Hl1.out ?_; intro A3 e3 w7 hO2 hT2 hA2; have H8 := Lib.hid (HGr.out A3 e3 w7 hO2 hT2 hA2); have hcg2 := H8.out.cell (k := 1) (i := p) rfl (gmV_get hp); have hfg2 := H8.out.frozen (k := 1) rfl p; clear hO2 hT2 hA2)
      go_roundg (part.length - (c + 1))
      case measure => omega
      case rel =>
        refine ⟨c + 1, updF A p A3, updF C p e3, by omega, rfl, by go_num, ?_⟩
        have h := H8.out.set (k := 1) rfl p (.slice A3 ((clsP part c p).length + 1) e3)
        have e := gmV_set (A := A) (C := C) (Z := fun q => nats (clsP part c q)) (k := parts) (m := p) A3 e3 (nats (clsP part c p) ++ [(c : Int)])
        rw [List.length_append, nats_length] at e
        rw [HZ.out, ← e, ← HZ.out]
        exact h
    · obtain rfl : c = part.length := by omega
      go_wp2_with fail
      go_ret
      refine ⟨_, _, rfl, ⟨_, ?_, rowsOf_gms (s := [⟨aP, cP, 3, ints part⟩]) Hh.out⟩, Hh.out.below⟩
      have h := (Hh.out.row (k := 1) rfl).own (B := w.heap.size) (Hh.out.obj (k := 1) rfl).1
      rw [gmV_len] at h
      exact h
end Go.Proofs.YtmjoijfafachhaaGreatDoor


