/- More of what a walk knows of its memory: blocks in another order; a block that a callee turned; the last slice of many. -/
import Derived.Test.YtlgiponfcmeiiaaDoorTab
namespace Go.Proofs.YtlgiponfcmeiiaaDoor
open Go Go.RowKit
theorem nthO_last {α : Type} (l : List α) (x : α) : nthO (l ++ [x]) l.length = some x := by
  induction l with
  | nil => rfl
  | cons y l ih => exact ih
theorem setO_last {α : Type} (l : List α) (x y : α) : setO (l ++ [x]) l.length y = l ++ [y] := by
  induction l with
  | nil => rfl
  | cons z l ih => show z :: setO (l ++ [x]) l.length y = z :: (l ++ [y]); rw [ih]
namespace HH
variable {w0 w w' : World} {l l' : Kn} {s : List SlO}
theorem perm (h : HH w0 w l s) (hp : l.Perm l') : HH w0 w l' s :=
  ⟨h.below, fun x hx => h.blk x (hp.mem_iff.2 hx), h.own, (hp.pairwise_iff (fun {_ _} h e => h e.symm)).1 h.nd1, h.nd2, fun x hx => h.nd3 x (hp.mem_iff.2 hx)⟩
/-- A callee that turned one block. -/
theorem turn (h : HH w0 w l s) {k b off : Nat} {R R' : Obj → Prop} {o : Obj} (hk : nthO l k = some (b, R)) (ht : Turned w w' (some ⟨b, off, none⟩)) (ho : w'.heap[b]? = some o) (hr : R' o) : HH w0 w' (setO l k (b, R')) s :=
  h.upd hk ht.os ht.tape ht.output ht.size (fun i hi hne => ht.block i hi fun x hx => by cases hx; exact fun e => hne e.symm) ho hr
/-- A callee that turned one slice, where it lies. -/
theorem turnSl (h : HH w0 w l s) {k : Nat} {a : Option Addr} {c : Nat} {E : TypeId} {vs vs' : List Value} (hk : nthO s k = some ⟨a, c, E, vs⟩) (ho : Own w' w0.heap.size E a c vs') (ht : Turned w w' a) : HH w0 w' l (setO s k ⟨a, c, E, vs'⟩) :=
  h.grow hk ho ht fun x hx => .inr ⟨x, hx, rfl⟩
end HH
theorem nthO_ne {l : Kn} (hp : l.Pairwise fun x y => x.1 ≠ y.1) : ∀ {j k : Nat} {x y : Nat × (Obj → Prop)}, nthO l j = some x → nthO l k = some y → j ≠ k → x.1 ≠ y.1 := by
  induction l with
  | nil => intro j k x y h _ _; cases h
  | cons a l ih =>
    rw [List.pairwise_cons] at hp
    intro j k x y hj hk hne
    cases j with
    | zero =>
      cases k with
      | zero => exact absurd rfl hne
      | succ k =>
        simp only [nthO, Option.some.injEq] at hj
        subst hj
        exact hp.1 y (nthO_mem hk)
    | succ j =>
      cases k with
      | zero =>
        simp only [nthO, Option.some.injEq] at hk
        subst hk
        exact fun e => hp.1 x (nthO_mem hj) e.symm
      | succ k => exact ih hp.2 hj hk (fun e => hne (by rw [e]))
theorem HH.ne {w0 w : World} {l : Kn} {s : List SlO} (h : HH w0 w l s) {j k : Nat} {x y : Nat × (Obj → Prop)} (hj : nthO l j = some x) (hk : nthO l k = some y) (hne : j ≠ k) : x.1 ≠ y.1 := nthO_ne h.nd1 hj hk hne
/-- The value of a slice that the call owns. -/
def slV (d : SlO) : Value := .slice d.a d.vs.length d.c
/-- The cells of a list of rows of which some are made. -/
def valsR (done : List SlO) (R : Nat) : List Value := done.map slV ++ List.replicate (R - done.length) (.slice none 0 0)
def valsC (done : List SlO) (R : Nat) (v : Value) : List Value := done.map slV ++ v :: List.replicate (R - done.length - 1) (.slice none 0 0)
theorem valsR_open {done : List SlO} {R : Nat} (h : done.length < R) : valsR done R = valsC done R (.slice none 0 0) := by
  unfold valsR valsC
  rw [show R - done.length = (R - done.length - 1) + 1 by omega, List.replicate_succ]
  simp
theorem valsR_snoc (done : List SlO) (R : Nat) (d : SlO) : valsC done R (slV d) = valsR (done ++ [d]) R := by
  unfold valsR valsC
  rw [List.map_append, List.length_append, List.append_assoc]
  simp [Nat.sub_sub]
theorem valsC_get (done : List SlO) (R : Nat) (v : Value) : (valsC done R v)[done.length]? = some v := by
  unfold valsC
  rw [List.getElem?_append_right (by simp)]
  simp
theorem valsC_set (done : List SlO) (R : Nat) (v u : Value) : (valsC done R v).set done.length u = valsC done R u := by
  unfold valsC
  rw [List.set_append_right _ _ (by simp)]
  simp
theorem valsR_zero (R : Nat) : List.replicate R (Value.slice none 0 0) = valsR [] R := by simp [valsR]
/-- The finished rows are a table. -/
theorem rowsAt_of {w0 w : World} {l : Kn} {s : List SlO} (h : HH w0 w l s) {T : List (List Int)} (hl : s.length = T.length) (hT : ∀ (i : Nat) (d : SlO), s[i]? = some d → d.E = 3 ∧ d.vs = ints (T.getD i [])) : RowsAt w (s.map slV) T := by
  refine ⟨by simp [hl], fun i v row h1 h2 => ?_⟩
  have hi := (List.getElem?_eq_some_iff.1 h2).1
  have hd := List.getElem?_eq_getElem (l := s) (i := i) (by omega)
  rw [List.getElem?_map, hd] at h1
  obtain ⟨e1, e2⟩ := hT i _ hd
  have ho := h.own _ (List.mem_of_getElem? hd)
  rw [List.getD_eq_getElem?_getD, h2] at e2
  have e2 : s[i].vs = ints row := e2
  have hv : slV s[i] = v := Option.some.inj h1
  rw [e1, e2] at ho
  have hsz := ho.size
  rw [ints_length] at hsz
  refine ⟨s[i].a, s[i].c, ?_, hsz, ho.ints⟩
  rw [← hv]
  unfold slV
  rw [e2, ints_length]
/-- One row, in every later world. -/
theorem TabAt.rowAt {w : World} {a : Option Addr} {T : List (List Int)} (h : TabAt w a T) {i : Nat} {row : List Int} (hi : T[i]? = some row) :
    ∃ b off a' c', a = some ⟨b, off, none⟩ ∧ row.length ≤ c' ∧ ∀ W', Below w.heap.size w W' → W'.cell? ⟨b, off + i, none⟩ = some (.slice a' row.length c') ∧ IntsAt W' a' row := by
  obtain ⟨b, off, a', c', he, hc, hl, hr⟩ := h i row hi
  exact ⟨b, off, a', c', he, hl, fun W' hb => ⟨(hb.cell (p := ⟨b, off + i, none⟩) (World.block_lt_of_cell? w _ hc)).trans hc, hr.later hb⟩⟩
section
variable {w : World} {ops : Array Oper} {o : Oper} {a : Act}
/-- An append of one number at a step of a region that draws its order. -/
theorem step_append_one {K : Act → World → Prop} {Q : Exit → Act → World → Prop} {E : Prop} (hgd : o.guard = none) (s x : Operand) (ho : o.op = .call { callee := .builtin .append, args := #[s, x], argTypes := #[36, 36] })
    (B : Nat) (i : TypeInfo) (h2 : Tryd.prog.info? 3 = some i) (h3 : i.zero = some (.int .i64 0)) (h4 : i.size = 1) (h5 : i.bytes = 8) (A : Option Addr) (n c : Nat) (vs : List Value) (hs : a.eval s = .slice A n c) (hn : vs.length = n) (hown : Own w B 3 A c vs) (ad : Addr) (m' : Nat) (u : Value) (hx : a.eval x = .slice (some ad) 1 m') (hu : w.cell? ad = some u) (hu1 : u.oneCell' = true)
    (hn1 : n ≤ 1000000) (hB : B ≤ w.heap.size) (h : ∀ A' c' w', Own w' B 3 A' c' (vs ++ [u]) → Turned w w' A → (∀ x, A' = some x → (w.heap.size ≤ x.block ∨ ∃ y, A = some y ∧ x = y)) → K (a.put o.dst (.slice A' (n + 1) c')) w') :
    if Region.wanted o (yielded ops a.tmps) = true then Oper.wp Tryd.prog o a w K Q else E := by
  have hw : Region.wanted o (yielded ops a.tmps) = true := by simp [Region.wanted, hgd]
  rw [if_pos hw]
  subst hn
  obtain ⟨a', c', w', hrun, r1, r2, r3⟩ := run_append_one (P := Tryd.prog) w B 36 o.type 3 i (.int .i64 0) 8 Tryd.underlying36 h2 h3 h4 h5 rfl A c vs hown ad m' u hu hu1 (by omega) (by omega) hB
  unfold Oper.wp
  simp [execOp, ho, resolve, invoke, builtin, hs, hx, hrun, Result.andThen]
  exact h a' c' w' r1 r2 r3
end
theorem heap_alloc4 (W : World) (o0 o1 o2 o3 : Obj) : ∀ (i : Nat) (x : Obj), [o0, o1, o2, o3][i]? = some x → i < 4 ∧ ((((W.alloc o0).alloc o1).alloc o2).alloc o3).heap[W.heap.size + i]? = some x := by
  intro i x hx
  have s1 : (W.alloc o0).heap.size = W.heap.size + 1 := by simp
  have s2 : ((W.alloc o0).alloc o1).heap.size = W.heap.size + 2 := by simp
  have s3 : (((W.alloc o0).alloc o1).alloc o2).heap.size = W.heap.size + 3 := by simp
  rcases i with _ | _ | _ | _ | i
  · simp only [List.getElem?_cons_zero, Option.some.injEq] at hx
    subst hx
    refine ⟨by omega, ?_⟩
    rw [Nat.add_zero, Below.heap_alloc _ _ _ (by omega), Below.heap_alloc _ _ _ (by omega), Below.heap_alloc _ _ _ (by omega)]
    exact heap_alloc_new W o0
  · simp only [List.getElem?_cons_succ, List.getElem?_cons_zero, Option.some.injEq] at hx
    subst hx
    refine ⟨by omega, ?_⟩
    rw [Below.heap_alloc _ _ _ (by omega), Below.heap_alloc _ _ _ (by omega), show W.heap.size + (0 + 1) = (W.alloc o0).heap.size by omega]
    exact heap_alloc_new _ o1
  · simp only [List.getElem?_cons_succ, List.getElem?_cons_zero, Option.some.injEq] at hx
    subst hx
    refine ⟨by omega, ?_⟩
    rw [Below.heap_alloc _ _ _ (by omega), show W.heap.size + (0 + 1 + 1) = ((W.alloc o0).alloc o1).heap.size by omega]
    exact heap_alloc_new _ o2
  · simp only [List.getElem?_cons_succ, List.getElem?_cons_zero, Option.some.injEq] at hx
    subst hx
    refine ⟨by omega, ?_⟩
    rw [show W.heap.size + (0 + 1 + 1 + 1) = (((W.alloc o0).alloc o1).alloc o2).heap.size by omega]
    exact heap_alloc_new _ o3
  · simp at hx
/-- Four blocks more, told in another order. -/
theorem HH.four {w W : World} {x0 : Nat × (Obj → Prop)} (h : HH w W [x0] []) (o0 o1 o2 o3 : Obj) (i j k l : Nat) (hij : i ≠ j ∧ i ≠ k ∧ i ≠ l ∧ j ≠ k ∧ j ≠ l ∧ k ≠ l) {x y z t : Obj} (hx : [o0, o1, o2, o3][i]? = some x) (hy : [o0, o1, o2, o3][j]? = some y) (hz : [o0, o1, o2, o3][k]? = some z) (ht : [o0, o1, o2, o3][l]? = some t)
    {R1 R2 R3 R4 : Obj → Prop} (h1 : R1 x) (h2 : R2 y) (h3 : R3 z) (h4 : R4 t) : HH w ((((W.alloc o0).alloc o1).alloc o2).alloc o3).drew [x0, (W.heap.size + i, R1), (W.heap.size + j, R2), (W.heap.size + k, R3), (W.heap.size + l, R4)] [] := by
  have hb : Below W.heap.size W ((((W.alloc o0).alloc o1).alloc o2).alloc o3).drew := (((((Below.refl _ _).alloc (Nat.le_refl _) o0).alloc (by simp) o1).alloc (by simp; omega) o2).alloc (by simp; omega) o3).drew
  have hc := h.call hb
  have hs := h.below.size
  have hlt := h.lt List.mem_cons_self
  obtain ⟨gi, ei⟩ := heap_alloc4 W o0 o1 o2 o3 i x hx
  obtain ⟨gj, ej⟩ := heap_alloc4 W o0 o1 o2 o3 j y hy
  obtain ⟨gk, ek⟩ := heap_alloc4 W o0 o1 o2 o3 k z hz
  obtain ⟨gl, el⟩ := heap_alloc4 W o0 o1 o2 o3 l t ht
  refine ⟨hc.below, fun u hu => ?_, hc.own, ?_, List.Pairwise.nil, fun _ _ _ hy => by cases hy⟩
  · simp only [List.mem_cons, List.not_mem_nil, or_false] at hu
    rcases hu with e | e | e | e | e
    · subst e; exact hc.blk _ List.mem_cons_self
    · subst e; exact ⟨by show w.heap.size ≤ W.heap.size + i; omega, x, ei, h1⟩
    · subst e; exact ⟨by show w.heap.size ≤ W.heap.size + j; omega, y, ej, h2⟩
    · subst e; exact ⟨by show w.heap.size ≤ W.heap.size + k; omega, z, ek, h3⟩
    · subst e; exact ⟨by show w.heap.size ≤ W.heap.size + l; omega, t, el, h4⟩
  · simp only [List.pairwise_cons, List.mem_cons, List.not_mem_nil, or_false, forall_eq_or_imp, forall_eq, false_imp_iff, implies_true, List.Pairwise.nil, and_true]
    omega
end Go.Proofs.YtlgiponfcmeiiaaDoor
