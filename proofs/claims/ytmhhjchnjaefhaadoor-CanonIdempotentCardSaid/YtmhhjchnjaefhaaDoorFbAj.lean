/- diagram.Graph: the parts of a diagram, as lists. connect.part: a part of a diagram by itself. Lists of diagrams in memory: three cells each; append. Plain: the piece of a component: its least code, the order that yields it, how many crossings yield it. diagram.Faces and connect.left: the number of the face of each half-edge. connect.Split: the parts of a diagram. Plain law: what Factor and prime compute: the two parts at a cut, the prime factors. Plain: the numbering from a crossing lists its component. cmp.Compare and slices.Compare. Plain law: the search that counts the parts of a graph without two edges. law07's pieces: how many parts remain without two edges. Slices of slices of integers that are read: s[i:], s[i:j]. -/
import Derived.WalkKit
import Derived.WalkSpells
import Derived.WalkLawsBesides
import Derived.Deep.AppendSrc
import Derived.Deep.LoopGhost
import Derived.Deep.QuietTactic
import Derived.Deep.RegionWith
import Derived.Deep.DeepMust
import Derived.Deep.DeepFit
import Derived.BigQuiet
import Derived.Lib.Hide
import Derived.Outline
import Derived.Test.YtmhhjchnjaefhaaDoorProg
import Derived.Deep.Matrix
import Derived.Deep.DeepCutAuto
import Derived.Deep.RegionLaw
import Derived.Deep.RegionHeld3
import Derived.Test.YtmhhjchnjaefhaaDoorFbAa
import Derived.Test.YtmhhjchnjaefhaaDoorFbAc
import Derived.Test.YtmhhjchnjaefhaaDoorFbAd
import Derived.Test.YtmhhjchnjaefhaaDoorFbAe
import Derived.Test.YtmhhjchnjaefhaaDoorFbAf
import Derived.Test.YtmhhjchnjaefhaaDoorFbAg
import Derived.Test.YtmhhjchnjaefhaaDoorFbAh
import Derived.Test.YtmhhjchnjaefhaaDoorFbAi
import Derived.Test.YtmhhjchnjaefhaaDoorFbAb
namespace Go.Proofs.YtmhhjchnjaefhaaDoor
open Go Go.RowKit
theorem nthO_get {α : Type} : ∀ (l : List α) (i : Nat), nthO l i = l[i]?
  | [], _ => rfl
  | _ :: _, 0 => rfl
  | _ :: l, i + 1 => by show nthO l i = _; rw [nthO_get l i]; rfl
theorem setO_set {α : Type} : ∀ (l : List α) (i : Nat) (y : α), setO l i y = l.set i y
  | [], _, _ => rfl
  | _ :: _, 0, _ => rfl
  | x :: l, i + 1, y => by show x :: setO l i y = _; rw [setO_set l i y]; rfl
/-- Slices told by functions. -/
def gms (A : Nat → Option Addr) (C : Nat → Nat) (Z : Nat → List Int) (k : Nat) : List SlO := (List.range k).map fun m => ⟨A m, C m, 3, ints (Z m)⟩
def updF {α : Type} (f : Nat → α) (m : Nat) (x : α) : Nat → α := fun i => if i = m then x else f i
theorem gms_nth {A : Nat → Option Addr} {C : Nat → Nat} {Z : Nat → List Int} {k m : Nat} (h : m < k) : nthO (gms A C Z k) m = some ⟨A m, C m, 3, ints (Z m)⟩ := by rw [nthO_get]; simp [gms, h]
theorem gms_set {A : Nat → Option Addr} {C : Nat → Nat} {Z : Nat → List Int} {k m : Nat} (_ : m < k) (a : Option Addr) (c : Nat) (xs : List Int) : setO (gms A C Z k) m ⟨a, c, 3, ints xs⟩ = gms (updF A m a) (updF C m c) (updF Z m xs) k := by
  rw [setO_set]
  apply List.ext_getElem
  · simp [gms]
  · intro i h1 h2
    rw [List.getElem_set]
    simp only [gms, List.getElem_map, List.getElem_range, updF]
    by_cases e : m = i
    · subst e; simp
    · rw [if_neg e, if_neg (fun g => e g.symm), if_neg (fun g => e g.symm), if_neg (fun g => e g.symm)]
def gmV (A : Nat → Option Addr) (C : Nat → Nat) (Z : Nat → List Int) (k : Nat) : List Value := (List.range k).map fun m => .slice (A m) (Z m).length (C m)
theorem gmV_len (A : Nat → Option Addr) (C : Nat → Nat) (Z : Nat → List Int) (k : Nat) : (gmV A C Z k).length = k := by simp [gmV]
theorem gmV_get {A : Nat → Option Addr} {C : Nat → Nat} {Z : Nat → List Int} {k m : Nat} (h : m < k) : (gmV A C Z k)[m]? = some (.slice (A m) (Z m).length (C m)) := by simp [gmV, h]
theorem gmV_set {A : Nat → Option Addr} {C : Nat → Nat} {Z : Nat → List Int} {k m : Nat} (a : Option Addr) (c : Nat) (xs : List Int) : (gmV A C Z k).set m (.slice a xs.length c) = gmV (updF A m a) (updF C m c) (updF Z m xs) k := by
  apply List.ext_getElem
  · simp [gmV]
  · intro i h1 h2
    rw [List.getElem_set]
    simp only [gmV, List.getElem_map, List.getElem_range, updF]
    by_cases e : m = i
    · subst e; simp
    · rw [if_neg e, if_neg (fun g => e g.symm), if_neg (fun g => e g.symm), if_neg (fun g => e g.symm)]
/-- The crossings ahead of c that bear number p. -/
def clsP (part : List Int) (c p : Nat) : List Nat := (List.range c).filter fun d => decide (nth part d = (p : Int))
theorem clsP_step (part : List Int) (c p : Nat) (h : nth part c = (p : Int)) : (fun q => nats (clsP part (c + 1) q)) = updF (fun q => nats (clsP part c q)) p (nats (clsP part c p) ++ [(c : Int)]) := by
  funext q
  unfold updF clsP
  rw [List.range_succ, List.filter_append]
  by_cases e : q = p
  · rw [if_pos e, e, nats_snoc]; simp [h]
  · rw [if_neg e]
    have : ¬ nth part c = (q : Int) := by omega
    simp [this]
theorem clsP_len (part : List Int) (c p : Nat) : (clsP part c p).length ≤ c := by
  have := List.length_filter_le (fun d => decide (nth part d = (p : Int))) (List.range c)
  rwa [List.length_range] at this
theorem rowsOf_gms {w0 w : World} {l : Kn} {A : Nat → Option Addr} {C : Nat → Nat} {Z : Nat → List Int} {k : Nat} {s : List SlO} (h : HH w0 w l (s ++ gms A C Z k)) : RowsOf w w0.heap.size (gmV A C Z k) ((List.range k).map Z) := by
  refine ⟨by simp [gmV], fun i v xs h1 h2 => ?_⟩
  have hi : i < k := by have := (List.getElem?_eq_some_iff.1 h2).1; simpa using this
  rw [gmV_get hi] at h1
  cases h1
  have e : Z i = xs := by simpa [hi] using h2
  subst e
  exact ⟨A i, C i, rfl, h.own _ (List.mem_append_right _ (by unfold gms; exact List.mem_map.2 ⟨i, List.mem_range.2 hi, rfl⟩))⟩
theorem HH.addNils {w0 w : World} {l : Kn} {s : List SlO} (h : HH w0 w l s) (k : Nat) : HH w0 w l (s ++ gms (fun _ => none) (fun _ => 0) (fun _ => []) k) := by
  induction k with
  | zero => simpa [gms] using h
  | succ k ih =>
    have := ih.addNil 3
    unfold gms at this ⊢
    rw [List.range_succ, List.map_append, ← List.append_assoc]
    exact this
set_option maxRecDepth 100000 in
set_option maxHeartbeats 4000000 in
theorem graph_any (S M : List Int) (L : Int) (aS aM : Option Addr) (cS cM : Nat) (w : World) (hv : vldB S M L = true) (hS : IntsAt w aS S) (hM : IntsAt w aM M) :
    Calls Tryd.prog 36 #[.agg #[.slice aS S.length cS, .slice aM M.length cM, .int .i64 L]] w fun e w' => ∃ a c, e = .returned (.slice a (grpOf M S.length).length c) ∧ OwnRows w' w.heap.size a c ((grpOf M S.length).map nats) ∧ Below w.heap.size w w' := by
  have hs := vldB_shape hv
  have hm := hs.mates
  have hfw := hs.few
  obtain ⟨part, parts, hlb, hLb⟩ := label_spec hm (by omega)
  have hge := groups_eq hLb (label_ordered hm (by omega) hlb)
  have HV : Hid (∀ W', Below w.heap.size w W' → Calls Tryd.prog 18 #[.agg #[.slice aS S.length cS, .slice aM M.length cM, .int .i64 L]] W' fun e w' => e = .returned (.bool true) ∧ Below W'.heap.size W' w') := Lib.hid fun W' h => by
    have g := valid_any S M L aS aM cS cM W' (by omega) (by rw [hs.len]; omega) (hS.later h) (hM.later h)
    rw [hv] at g; exact g
  have HLa : Hid (∀ W', Below w.heap.size w W' → Calls Tryd.prog 61 #[.agg #[.slice aS S.length cS, .slice aM M.length cM, .int .i64 L]] W' fun e w' => ∃ a c, e = .returned (.tuple #[.slice a part.length c, .int .i64 (parts : Int)]) ∧ Below W'.heap.size W' w' ∧ Own w' W'.heap.size 3 a c (ints part)) := Lib.hid fun W' h => label_any S M L aS aM cS cM W' 1000000 part (parts : Int) (by omega) (by omega) hs.len (hM.later h) hs.range hlb
  have HP : Hid (∀ c, c < part.length → ∃ p : Nat, p < parts ∧ nth part c = (p : Int)) := Lib.hid fun c hc => by
    have := hLb.range c (by rw [← hLb.len]; exact hc)
    exact ⟨(nth part c).toNat, by omega, by omega⟩
  have hpn := hLb.le
  have HG : Hid ((grpOf M S.length).map nats = (List.range parts).map fun p => nats (clsP part part.length p)) := Lib.hid (by rw [← hge, List.map_map, hLb.len]; rfl)
  have HGl : Hid ((grpOf M S.length).length = parts) := Lib.hid (by have := congrArg List.length HG.out; simpa using this)
  rw [HG.out, HGl.out]
  have hpl := hLb.len
  have hpl2 : part.length ≤ 64 := by omega
  have hmk := run_mk1 (T := 41) (z := .slice none 0 0) (bytes := 24) Tryd.underlying41 Tryd.info22 rfl parts parts (Nat.le_refl _) (by omega) (by omega)
  obtain ⟨i0, hi0, hz0, hz1, hz2⟩ := info_parts Tryd.info3
  have H0 := Lib.hid ((HH.start w).alloc #[.slice aS S.length cS, .slice aM M.length cM, .int .i64 L] 24 rfl rfl)
  clear hs hm hv hS hM hlb hLb hge HG HGl hpl
  generalize S.length = n at *
  generalize M.length = N at *
  go_enter Tryd.func36, Tryd.ntmps36
  go_wp2_with fail
  refine (HV.out _ H0.out.below).mono ?_
  rintro e w1 ⟨rfl, hb⟩
  have H1 := Lib.hid (H0.out.call hb)
  clear hb H0 HV
  have c1 := H1.out.cell (k := 0) (i := 0) rfl rfl
  have c2 := H1.out.cell (k := 0) (i := 1) rfl rfl
  have c3 := H1.out.cell (k := 0) (i := 2) rfl rfl
  go_wp2_with fail
  clear c1 c2 c3
  refine (HLa.out _ H1.out.below).mono ?_
  rintro e w2 ⟨aP, cP, rfl, hb, ho⟩
  have H2 := Lib.hid (H1.out.addSl hb ho)
  clear hb ho H1 HLa
  have H3 := Lib.hid (H2.out.alloc (Array.replicate parts (.slice none 0 0)) 22 rfl (vs := gmV (fun _ => none) (fun _ => 0) (fun q => nats (clsP part 0 q)) parts) (by
    rw [Array.toList_replicate]
    apply List.ext_getElem
    · simp [gmV]
    · intro i h1 h2; simp [gmV, clsP, nats]))
  go_wp2_with fail
  have h4 := H3.out.addNils parts
  have H4 : Hid (HH w (w2.alloc (Obj.cells (Array.replicate parts (Value.slice none 0 0)) 22)) [(w.heap.size, rowO 24 [.slice aS n cS, .slice aM N cM, .int .i64 L]), (w2.heap.size, rowO 22 (gmV (fun _ => none) (fun _ => 0) (fun q => nats (clsP part 0 q)) parts))] (⟨aP, cP, 3, ints part⟩ :: gms (fun _ => none) (fun _ => 0) (fun q => nats (clsP part 0 q)) parts)) := Lib.hid h4
  clear h4 H3 H2 hmk
  generalize w2.heap.size = og at *
  go_loopg [20] part.length (fun g v wr => ∃ (c : Nat) (A : Nat → Option Addr) (C : Nat → Nat), c ≤ part.length ∧ g = part.length - c ∧ v = .int .i64 c ∧ HH w wr [(w.heap.size, rowO 24 [.slice aS n cS, .slice aM N cM, .int .i64 L]), (og, rowO 22 (gmV A C (fun q => nats (clsP part c q)) parts))] (⟨aP, cP, 3, ints part⟩ :: gms A C (fun q => nats (clsP part c q)) parts))
  case atStart => exact ⟨0, _, _, Nat.zero_le _, rfl, rfl, H4.out⟩
  case round =>
    obtain ⟨c, A, C, hc, rfl, rfl, hh⟩ := hrel
    have Hh := Lib.hid hh
    clear hh H4
    by_cases hcl : c < part.length
    · obtain ⟨p, hp, hpv⟩ := HP.out c hcl
      obtain ⟨b2, o2, rfl, _, _, hcR, _⟩ := (Hh.out.sl (k := 0) rfl).open (by show 0 < (ints part).length; rw [ints_length]; omega)
      have hcx := hcR c _ (ints_get part c hcl)
      rw [hpv] at hcx
      clear hcR
      have hcg := Hh.out.cell (k := 1) (i := p) rfl (gmV_get hp)
      have HZ := Lib.hid (clsP_step part c p hpv)
      have hzl := clsP_len part c p
      have Ha0 := Lib.hid (Hh.out.call ((Below.refl _ _).alloc (Nat.le_refl _) (.cells #[.int .i64 (c : Int)] 3)))
      have Hc0 : Hid ((wr.alloc (.cells #[.int .i64 (c : Int)] 3)).cell? ⟨wr.heap.size, 0, none⟩ = some (.int .i64 (c : Int))) := Lib.hid ((Row.new wr #[.int .i64 (c : Int)] 3).cell 0)
      have Hl1 : Hid (w.heap.size ≤ (wr.alloc (.cells #[.int .i64 (c : Int)] 3)).heap.size) := Lib.hid Ha0.out.below.size
      have Hsl : Hid (Own (wr.alloc (.cells #[.int .i64 (c : Int)] 3)) w.heap.size 3 (A p) (C p) (ints (nats (clsP part c p)))) := Lib.hid (Ha0.out.sl (k := p + 1) (gms_nth hp))
      have Hsn : Hid ((ints (nats (clsP part c p))).length = (clsP part c p).length) := Lib.hid (by rw [ints_length, nats_length])
      rw [nats_length] at hcg
      have e1 : decide ((p : Int) < 0) = false := decide_eq_false (by omega)
      have e2 : decide ((parts : Int) ≤ (p : Int)) = false := decide_eq_false (by omega)
      have e3 : decide (parts ≤ p) = false := decide_eq_false (by omega)
      clear hpv
      have HGr : Hid (∀ (A3 : Option Addr) (e3 : Nat) (w7 : World), Own w7 w.heap.size 3 A3 e3 (ints (nats (clsP part c p)) ++ [.int .i64 (c : Int)]) → Turned (wr.alloc (.cells #[.int .i64 (c : Int)] 3)) w7 (A p) → (∀ x, A3 = some x → ((wr.alloc (.cells #[.int .i64 (c : Int)] 3)).heap.size ≤ x.block ∨ ∃ y, A p = some y ∧ x = y)) →
          HH w w7 [(w.heap.size, rowO 24 [.slice aS n cS, .slice aM N cM, .int .i64 L]), (og, rowO 22 (gmV A C (fun q => nats (clsP part c q)) parts))] (⟨some ⟨b2, o2, none⟩, cP, 3, ints part⟩ :: gms (updF A p A3) (updF C p e3) (fun q => nats (clsP part (c + 1) q)) parts)) := Lib.hid fun A3 e3 w7 h1 h2 h3 => by
        have h := Ha0.out.grow (k := p + 1) (gms_nth hp) h1 h2 h3
        have e := gms_set (A := A) (C := C) (Z := fun q => nats (clsP part c q)) hp A3 e3 (nats (clsP part c p) ++ [(c : Int)])
        rw [HZ.out, ← e, ← ints_snoc]
        exact h
      go_wp2_with (with_reducible refine wpList_append_one rfl (.tmp 30) (.tmp 32) 22 rfl w.heap.size 3 i0 (.int .i64 0) 8 Tryd.underlying22 hi0 hz0 hz1 hz2 rfl (A p) (clsP part c p).length (C p) (ints (nats (clsP part c p))) rfl Hsn.out Hsl.out _ 1 (.int .i64 (c : Int)) rfl Hc0.out rfl (by omega) (by omega) Hl1.out ?_; intro A3 e3 w7 hO2 hT2 hA2; have H8 := Lib.hid (HGr.out A3 e3 w7 hO2 hT2 hA2); have hcg2 := H8.out.cell (k := 1) (i := p) rfl (gmV_get hp); have hfg2 := H8.out.frozen (k := 1) rfl p; clear hO2 hT2 hA2)
      go_roundg (part.length - (c + 1))
      case measure => omega
      case rel =>
        refine ⟨c + 1, updF A p A3, updF C p e3, by omega, rfl, by go_num, ?_⟩
        have h := H8.out.set (k := 1) rfl p (.slice A3 ((clsP part c p).length + 1) e3)
        have e := gmV_set (A := A) (C := C) (Z := fun q => nats (clsP part c q)) (k := parts) (m := p) A3 e3 (nats (clsP part c p) ++ [(c : Int)])
        rw [List.length_append, nats_length] at e
        rw [HZ.out, ← e, ← HZ.out]
        exact h
    · obtain rfl : c = part.length := by omega
      go_wp2_with fail
      go_ret
      refine ⟨_, _, rfl, ⟨_, ?_, rowsOf_gms (s := [⟨aP, cP, 3, ints part⟩]) Hh.out⟩, Hh.out.below⟩
      have h := (Hh.out.row (k := 1) rfl).own (B := w.heap.size) (Hh.out.obj (k := 1) rfl).1
      rw [gmV_len] at h
      exact h
end Go.Proofs.YtmhhjchnjaefhaaDoor


namespace Go.Proofs.YtmhhjchnjaefhaaDoor
open Go Go.RowKit
theorem wrapi_mid {x : Int} (h0 : -1000000 ≤ x) (h1 : x ≤ 1000000) : IntKind.i64.wrap x = x := by
  rw [IntKind.wrap_i64]; omega
theorem wrap_mid {x : Int} (h0 : -1000000 ≤ x) (h1 : x ≤ 1000000) : wrap64 x = x := by
  unfold wrap64; omega
end Go.Proofs.YtmhhjchnjaefhaaDoor

namespace Go.Proofs.YtmhhjchnjaefhaaDoor
open Go Go.RowKit
abbrev Dgm := List Int × List Int × Int
/-- Numbers that are read; their block is old, or a block of numbers. -/
def TI (w : World) (B0 : Nat) (a : Option Addr) (xs : List Int) : Prop := IntsAt w a xs ∧ ∀ x, a = some x → (x.block < B0 ∧ x.block < w.heap.size) ∨ ∃ cur, w.heap[x.block]? = some (.cells cur 3 (0, 0))
theorem TI.at {w : World} {B0 : Nat} {a : Option Addr} {xs : List Int} (h : TI w B0 a xs) : IntsAt w a xs := h.1
theorem TI.later {w w' : World} {B0 : Nat} {a : Option Addr} {xs : List Int} (h : TI w B0 a xs) (hb : Below w.heap.size w w') : TI w' B0 a xs :=
  ⟨h.1.later hb, fun x hx => by
    rcases h.2 x hx with ⟨g1, g2⟩ | ⟨cur, g⟩
    · exact .inl ⟨g1, Nat.lt_of_lt_of_le g2 hb.size⟩
    · exact .inr ⟨cur, (hb.block _ (lt_of_heap g)).trans g⟩⟩
theorem IntsAt.keptB {w w' : World} {a : Option Addr} {xs : List Int} (h : IntsAt w a xs) (hk : ∀ x, a = some x → w'.heap[x.block]? = w.heap[x.block]?) : IntsAt w' a xs := fun i v hv => by
  obtain ⟨b, off, e, hc⟩ := h i v hv
  refine ⟨b, off, e, ?_⟩
  have := hk _ e
  unfold World.cell? at hc ⊢
  rw [this]; exact hc
theorem TI.kept {w w' : World} {B0 : Nat} {a : Option Addr} {xs : List Int} (h : TI w B0 a xs) (hs : w.heap.size ≤ w'.heap.size) (hk : ∀ x, a = some x → w'.heap[x.block]? = w.heap[x.block]?) : TI w' B0 a xs :=
  ⟨h.1.keptB hk, fun x hx => by
    rcases h.2 x hx with ⟨g1, g2⟩ | ⟨cur, g⟩
    · exact .inl ⟨g1, Nat.lt_of_lt_of_le g2 hs⟩
    · exact .inr ⟨cur, (hk x hx).trans g⟩⟩
/-- A list of another type that turns leaves it alone. -/
theorem TI.turned {w w' : World} {B0 B : Nat} {a : Option Addr} {xs : List Int} (h : TI w B0 a xs) {E : TypeId} {A : Option Addr} {c : Nat} {vs : List Value} (hE : E ≠ 3) (hB : B0 ≤ B) (hA : Own w B E A c vs) (ht : Turned w w' A) : TI w' B0 a xs :=
  h.kept ht.size fun x hx => by
    have hlt : x.block < w.heap.size := by
      rcases h.2 x hx with ⟨_, g⟩ | ⟨cur, g⟩
      · exact g
      · exact lt_of_heap g
    refine ht.block _ hlt fun y hy e => ?_
    have hl := (hA.lt hy).1
    rcases h.2 x hx with ⟨g, _⟩ | ⟨cur, g⟩
    · omega
    · rcases hA with ⟨e0, _⟩ | ⟨b, off, cur2, e1, _, e2, _⟩
      · rw [e0] at hy; cases hy
      · rw [e1] at hy; cases hy
        have e : b = x.block := e
        rw [← e, e2] at g
        simp only [Option.some.injEq, Obj.cells.injEq] at g
        exact hE g.2.1
theorem TI.own {w : World} {B B0 : Nat} {a : Option Addr} {c : Nat} {xs : List Int} (h : Own w B 3 a c (ints xs)) : TI w B0 a xs := ⟨h.ints, fun x hx => by
  rcases h with ⟨e, _⟩ | ⟨b, off, cur, e, _, g, _⟩
  · rw [e] at hx; cases hx
  · rw [e] at hx; cases hx
    exact .inr ⟨cur, g⟩⟩
theorem TI.nil (w : World) (B0 : Nat) : TI w B0 none [] := ⟨IntsAt.nil _ _, fun _ h => by cases h⟩
/-- The cells hold these diagrams. -/
def CellsOf (w : World) (B0 : Nat) (vs : List Value) (ds : List Dgm) : Prop := vs.length = ds.length * 3 ∧ ∀ (i : Nat) (d : Dgm), ds[i]? = some d → ∃ a c b e, vs[i * 3]? = some (.slice a d.1.length c) ∧ vs[i * 3 + 1]? = some (.slice b d.2.1.length e) ∧ vs[i * 3 + 2]? = some (.int .i64 d.2.2) ∧ TI w B0 a d.1 ∧ TI w B0 b d.2.1
theorem CellsOf.nil (w : World) (B0 : Nat) : CellsOf w B0 [] [] := ⟨rfl, fun i d h => by simp at h⟩
theorem CellsOf.later {w w' : World} {B0 : Nat} {vs : List Value} {ds : List Dgm} (h : CellsOf w B0 vs ds) (hb : Below w.heap.size w w') : CellsOf w' B0 vs ds := ⟨h.1, fun i d hd => by
  obtain ⟨a, c, b, e, h1, h2, h3, h4, h5⟩ := h.2 i d hd
  exact ⟨a, c, b, e, h1, h2, h3, h4.later hb, h5.later hb⟩⟩
theorem CellsOf.turned {w w' : World} {B0 B : Nat} {vs : List Value} {ds : List Dgm} (h : CellsOf w B0 vs ds) {E : TypeId} {A : Option Addr} {c : Nat} {us : List Value} (hE : E ≠ 3) (hB : B0 ≤ B) (hA : Own w B E A c us) (ht : Turned w w' A) : CellsOf w' B0 vs ds := ⟨h.1, fun i d hd => by
  obtain ⟨a, c, b, e, h1, h2, h3, h4, h5⟩ := h.2 i d hd
  exact ⟨a, c, b, e, h1, h2, h3, h4.turned hE hB hA ht, h5.turned hE hB hA ht⟩⟩
theorem CellsOf.append {w : World} {B0 : Nat} {vs us : List Value} {ds es : List Dgm} (h : CellsOf w B0 vs ds) (g : CellsOf w B0 us es) : CellsOf w B0 (vs ++ us) (ds ++ es) := ⟨by rw [List.length_append, List.length_append, h.1, g.1]; omega, fun i d hd => by
  rcases Nat.lt_or_ge i ds.length with k | k
  · rw [List.getElem?_append_left k] at hd
    obtain ⟨a, c, b, e, h1, h2, h3, h4, h5⟩ := h.2 i d hd
    have hl := h.1
    exact ⟨a, c, b, e, by rw [List.getElem?_append_left (by omega)]; exact h1, by rw [List.getElem?_append_left (by omega)]; exact h2, by rw [List.getElem?_append_left (by omega)]; exact h3, h4, h5⟩
  · rw [List.getElem?_append_right k] at hd
    obtain ⟨a, c, b, e, h1, h2, h3, h4, h5⟩ := g.2 _ d hd
    have hl := h.1
    have e0 : (i - ds.length) * 3 = i * 3 - ds.length * 3 := Nat.sub_mul _ _ _
    exact ⟨a, c, b, e, by rw [List.getElem?_append_right (by omega), show i * 3 - vs.length = (i - ds.length) * 3 by omega]; exact h1, by rw [List.getElem?_append_right (by omega), show i * 3 + 1 - vs.length = (i - ds.length) * 3 + 1 by omega]; exact h2, by rw [List.getElem?_append_right (by omega), show i * 3 + 2 - vs.length = (i - ds.length) * 3 + 2 by omega]; exact h3, h4, h5⟩⟩
theorem CellsOf.one {w : World} {B0 : Nat} {a b : Option Addr} {c e : Nat} {S M : List Int} {L : Int} (h1 : TI w B0 a S) (h2 : TI w B0 b M) : CellsOf w B0 [.slice a S.length c, .slice b M.length e, .int .i64 L] [(S, M, L)] := ⟨rfl, fun i d hd => by
  cases i with
  | zero => cases hd; exact ⟨a, c, b, e, rfl, rfl, rfl, h1, h2⟩
  | succ i => simp at hd⟩
/-- A list of diagrams of the call's own. -/
def DLO (w : World) (B B0 : Nat) (A : Option Addr) (C : Nat) (ds : List Dgm) : Prop := ∃ vs, Own w B 24 A (C * 3) vs ∧ ds.length ≤ C ∧ CellsOf w B0 vs ds
theorem DLO.mono {w : World} {B B' B0 : Nat} {A : Option Addr} {C : Nat} {ds : List Dgm} (h : DLO w B B0 A C ds) (hB : B' ≤ B) : DLO w B' B0 A C ds := by
  obtain ⟨vs, h1, h2, h3⟩ := h
  exact ⟨vs, h1.mono hB, h2, h3⟩
theorem DLO.later {w w' : World} {B B0 : Nat} {A : Option Addr} {C : Nat} {ds : List Dgm} (h : DLO w B B0 A C ds) (hb : Below w.heap.size w w') : DLO w' B B0 A C ds := by
  obtain ⟨vs, h1, h2, h3⟩ := h
  exact ⟨vs, h1.later hb (Nat.le_refl _), h2, h3.later hb⟩
/-- One diagram of it. -/
theorem DLO.open {w : World} {B B0 : Nat} {A : Option Addr} {C : Nat} {ds : List Dgm} (h : DLO w B B0 A C ds) (h0 : 0 < ds.length) : ∃ b off, A = some ⟨b, off, none⟩ ∧ ∀ (i : Nat) (d : Dgm), ds[i]? = some d → ∃ a c b' e, w.cell? ⟨b, off + i * 3, none⟩ = some (.slice a d.1.length c) ∧ w.cell? ⟨b, off + i * 3 + 1, none⟩ = some (.slice b' d.2.1.length e) ∧ w.cell? ⟨b, off + i * 3 + 2, none⟩ = some (.int .i64 d.2.2) ∧ TI w B0 a d.1 ∧ TI w B0 b' d.2.1 := by
  obtain ⟨vs, h1, h2, h3, h4⟩ := h
  obtain ⟨b, off, rfl, _, _, hc, _⟩ := h1.open (by omega)
  refine ⟨b, off, rfl, fun i d hd => ?_⟩
  obtain ⟨a, c, b', e, g1, g2, g3, g4, g5⟩ := h4 i d hd
  exact ⟨a, c, b', e, hc _ _ g1, by rw [Nat.add_assoc]; exact hc _ _ g2, by rw [Nat.add_assoc]; exact hc _ _ g3, g4, g5⟩
section
variable {P : Program} {ops : Array Oper} {Q : Exit → Act → World → Prop} {o : Oper} {rest : List Oper} {a : Act} {w : World}
/-- Append of elements of k cells. -/
theorem wpList_append_wide (hg : o.guard = none) (s x : Operand) (t tx : TypeId) (hop : o.op = .call { callee := .builtin .append, args := #[s, x], argTypes := #[t, tx] })
    (B : Nat) (E : TypeId) (i : TypeInfo) (z : Value) (bytes k : Nat) (h1 : P.underlying t = some (.slice E)) (h1x : P.underlying tx = some (.slice E)) (h2 : P.info? E = some i) (h3 : i.zero = some z) (h4 : i.size = k) (hk : 0 < k) (h5 : i.bytes = bytes) (hz : z.cells.size = k)
    (A : Option Addr) (n c : Nat) (vs : List Value) (hs : a.eval s = .slice A n c) (hn : vs.length = n * k) (hnc : n ≤ c) (hown : Own w B E A (c * k) vs) (ax : Option Addr) (m cx : Nat) (us : List Value) (hx : a.eval x = .slice ax m cx) (hm : us.length = m * k) (hus : VAt w ax us) (hu1 : ∀ u ∈ us, u.oneCell' = true)
    (hbytes : (n + m) * bytes ≤ 140737488355328) (h63 : n + m ≤ 9223372036854775807) (hB : B ≤ w.heap.size)
    (hK : ∀ A' c' w', n + m ≤ c' → Own w' B E A' (c' * k) (vs ++ us) → Turned w w' A → (∀ x, A' = some x → (w.heap.size ≤ x.block ∨ ∃ y, A = some y ∧ x = y)) → wpList P ops Q rest (a.put o.dst (.slice A' (n + m) c')) w') :
    wpList P ops Q (o :: rest) a w := by
  refine wpList_plain hg fun K hK' => ?_
  obtain ⟨a', c', w', hrun, r0, r1, r2, r3⟩ := run_append_wide (P := P) w B t tx o.type E i z bytes k h1 h1x h2 h3 h4 hk h5 hz A n c vs hn hnc hown ax m cx us hm hus hu1 hbytes h63 hB
  unfold Oper.wp
  simp [execOp, hop, resolve, invoke, builtin, hs, hx, hrun, Result.andThen]
  exact hK' _ _ (hK a' c' w' r0 r1 r2 r3)
end
end Go.Proofs.YtmhhjchnjaefhaaDoor


namespace Go.Proofs.YtmhhjchnjaefhaaDoor
open Go Go.RowKit
/-- One more root tried. -/
def pieStep (S M : List Int) (n : Nat) (p : Dgm) (r : Nat) : Dgm :=
  if p.1 = [] then (codeL S M r n, nats (ordL M r n), 1)
  else if cmpL (codeL S M r n) p.1 < 0 then (codeL S M r n, nats (ordL M r n), 1)
  else if cmpL (codeL S M r n) p.1 = 0 then (p.1, p.2.1, p.2.2 + 1)
  else p
/-- The piece of a group. -/
def pieOf (S M : List Int) (n : Nat) (G : List Nat) : Dgm := G.foldl (pieStep S M n) ([], [], 0)
theorem codeL_ne (S M : List Int) (r n : Nat) : codeL S M r n ≠ [] := fun e => by
  have h := codeL_len S M r n
  rw [e] at h
  have := ordTo_pos M r n
  unfold ordL at h
  simp at h
  omega
/-- What a piece is after some roots: the least of their codes. -/
structure PieIs (S M : List Int) (n : Nat) (l : List Nat) (p : Dgm) : Prop where
  at_ : ∃ r, r ∈ l ∧ p.1 = codeL S M r n ∧ p.2.1 = nats (ordL M r n)
  le : ∀ r, r ∈ l → leL p.1 (codeL S M r n)
theorem PieIs.one (S M : List Int) (n r : Nat) : PieIs S M n [r] (pieStep S M n ([], [], 0) r) :=
  ⟨⟨r, by simp, by simp [pieStep], by simp [pieStep]⟩, fun s hs => by
    obtain rfl : s = r := by simpa using hs
    unfold leL
    rw [show (pieStep S M n ([], [], 0) s).1 = codeL S M s n by simp [pieStep], cmpL_zero.2 rfl]; omega⟩
theorem PieIs.next {S M : List Int} {n : Nat} {l : List Nat} {p : Dgm} (h : PieIs S M n l p) (r : Nat) : PieIs S M n (l ++ [r]) (pieStep S M n p r) := by
  obtain ⟨r0, hr0, e1, e2⟩ := h.at_
  have hne : p.1 ≠ [] := by rw [e1]; exact codeL_ne _ _ _ _
  unfold pieStep
  rw [if_neg hne]
  by_cases h1 : cmpL (codeL S M r n) p.1 < 0
  · rw [if_pos h1]
    refine ⟨⟨r, by simp, rfl, rfl⟩, fun s hs => ?_⟩
    rcases List.mem_append.1 hs with g | g
    · exact leL_trans (show leL (codeL S M r n) p.1 by unfold leL; omega) (h.le s g)
    · obtain rfl : s = r := by simpa using g
      unfold leL
      rw [cmpL_zero.2 rfl]; omega
  · rw [if_neg h1]
    have hle : leL p.1 (codeL S M r n) := by unfold leL; rw [cmpL_swap (codeL S M r n) p.1]; omega
    have all : ∀ s, s ∈ l ++ [r] → leL p.1 (codeL S M s n) := fun s hs => by
      rcases List.mem_append.1 hs with g | g
      · exact h.le s g
      · obtain rfl : s = r := by simpa using g
        exact hle
    by_cases h2 : cmpL (codeL S M r n) p.1 = 0
    · rw [if_pos h2]; exact ⟨⟨r0, List.mem_append_left _ hr0, e1, e2⟩, all⟩
    · rw [if_neg h2]; exact ⟨⟨r0, List.mem_append_left _ hr0, e1, e2⟩, all⟩
end Go.Proofs.YtmhhjchnjaefhaaDoor


namespace Go.Proofs.YtmhhjchnjaefhaaDoor
open Go Go.RowKit
def facesL (M : List Int) (n : Nat) : List (List Nat) := cycs (fc M) (perOf (fc M) (4 * n)) (fun _ => true) (4 * n)
set_option maxRecDepth 100000 in
set_option maxHeartbeats 1000000 in
theorem faces1_any (w : World) (N : Nat) : BoolFn w 57 #[] N (fun _ => true) := by
  intro W x hW hx
  show Calls Tryd.prog 57 #[.int .i64 (x : Int)] W _
  go_enter Tryd.func57, Tryd.ntmps57
  go_wp2_with fail
  go_ret
  exact ⟨rfl, Below.refl _ _⟩
set_option maxRecDepth 100000 in
set_option maxHeartbeats 1000000 in
theorem faces2_any (S M : List Int) (L : Int) (aS aM : Option Addr) (cS cM : Nat) (w : World) (b : Nat) (hs : Shape S M L) (hM : IntsAt w aM M) (hbox : Row w b 24 [.slice aS S.length cS, .slice aM M.length cM, .int .i64 L]) :
    NatFn w 59 #[.pointer (some ⟨b, 0, none⟩)] (4 * S.length) (fc M) := by
  intro W x hW hx
  have hbx := (hbox.later hW hbox.lt).cell 1
  simp only [List.getElem?_cons_succ, List.getElem?_cons_zero] at hbx
  obtain ⟨b2, off, rfl, hbl, hc⟩ := (hM.later hW).open (by rw [hs.len]; omega)
  have hcx := hc x (by rw [hs.len]; exact hx)
  obtain ⟨hm0, hm1⟩ := hs.range x hx
  have hres : fc M x = tn (nth M x).toNat (-1) := rfl
  obtain ⟨m, hm⟩ := Int.eq_ofNat_of_zero_le hm0
  rw [hm, Int.toNat_natCast] at hres
  rw [hm] at hcx hm1
  have Hres := Lib.hid hres
  have hML : (x : Int) < (M.length : Int) := by rw [hs.len]; omega
  have hfw := hs.few
  clear hc hm hm0 hM hbox hW hres hs
  show Calls Tryd.prog 59 #[.int .i64 (x : Int), .pointer (some ⟨b, 0, none⟩)] W _
  go_enter Tryd.func59, Tryd.ntmps59
  go_wp2_with fail
  refine (turn_any m (-1) _ (by omega) (by omega) (by omega)).mono ?_
  rintro e w1 ⟨rfl, rfl⟩
  go_wp2_with fail
  go_ret
  rw [Hres.out]
  exact ⟨rfl, Below.refl _ _⟩
set_option maxRecDepth 100000 in
set_option maxHeartbeats 1000000 in
theorem faces_own (S M : List Int) (L : Int) (aS aM : Option Addr) (cS cM : Nat) (w : World) (hv : vldB S M L = true) (hS : IntsAt w aS S) (hM : IntsAt w aM M) :
    Calls Tryd.prog 34 #[.agg #[.slice aS S.length cS, .slice aM M.length cM, .int .i64 L]] w fun e w' => ∃ a c, e = .returned (.slice a (facesL M S.length).length c) ∧ Below w.heap.size w w' ∧ OwnRows w' w.heap.size a c ((facesL M S.length).map nats) := by
  have hB : Below w.heap.size w (w.alloc (.cells #[.slice aS S.length cS, .slice aM M.length cM, .int .i64 L] 24)) := (Below.refl _ _).alloc (Nat.le_refl _) _
  have hs := vldB_shape hv
  have hfw := hs.few
  have HV := Lib.hid (valid_any S M L aS aM cS cM (w.alloc (.cells #[.slice aS S.length cS, .slice aM M.length cM, .int .i64 L] 24)) (by omega) (by rw [hs.len]; omega) (hS.later hB) (hM.later hB))
  have Hbox := Lib.hid (Row.new w #[.slice aS S.length cS, .slice aM M.length cM, .int .i64 L] 24)
  have hi := hs.mates2.inj
  rw [hv] at HV
  have Hi := Lib.hid hi
  have Hs := Lib.hid hs
  have HM := Lib.hid hM
  have HB := Lib.hid hB
  clear hv hs hS hM hB hi
  go_enter Tryd.func34, Tryd.ntmps34
  go_wp2_with fail
  refine HV.out.mono ?_
  rintro e w1 ⟨rfl, hb1⟩
  have Hb1 := Lib.hid (below_of HB.out hb1 (by simp))
  have Hbox1 := Lib.hid (Hbox.out.later hb1 (by simp))
  have hc1 := Hbox1.out.cell 1
  simp only [List.getElem?_cons_succ, List.getElem?_cons_zero] at hc1
  clear hb1
  go_wp2_with fail
  rw [Hs.out.len]
  refine (cycles_any 59 57 #[.pointer (some ⟨w.heap.size, 0, none⟩)] #[] (4 * S.length) (fc M) (perOf (fc M) (4 * S.length)) (fun _ => true) w1 (by omega) Tryd.call59 Tryd.call57
    (faces2_any S M L aS aM cS cM w1 _ Hs.out (HM.out.later Hb1.out) Hbox1.out) (faces1_any w1 _) Hi.out.lt (fun x hx => perOf_spec Hi.out x hx) (fun x hx => Nat.le_trans (perOf_le _ _ _ (by omega)) (by omega))).mono ?_
  rintro e w2 ⟨A, c, rfl, hb2, hR⟩
  have Hb2 := Lib.hid (below_step Hb1.out hb2)
  have HR := Lib.hid (hR.mono (B' := w.heap.size) Hb1.out.size)
  clear hb2 hR
  go_wp2_with fail
  go_ret
  exact ⟨A, c, rfl, Hb2.out, HR.out⟩
end Go.Proofs.YtmhhjchnjaefhaaDoor


namespace Go.Proofs.YtmhhjchnjaefhaaDoor
open Go Go.RowKit
theorem grp_whole {M : List Int} {n : Nat} (hm : MateOk M n) {G : List Nat} (h : G ∈ grpOf M n) : Whole M n G ∧ 0 < G.length := by
  obtain ⟨c, hc, rfl⟩ := List.mem_map.1 h
  refine ⟨whole_cls hm c, ?_⟩
  have hcn := (mem_leadsN.1 hc).1
  exact List.length_pos_of_mem (mem_clsN.2 ⟨hcn, Conn.refl M c⟩)
theorem grp_len (M : List Int) (n : Nat) : (grpOf M n).length ≤ n := by
  unfold grpOf leadsN
  rw [List.length_map]
  have := List.length_filter_le (fun c => okC (∀ d, d < c → ¬ Conn M d c)) (List.range n)
  rwa [List.length_range] at this
end Go.Proofs.YtmhhjchnjaefhaaDoor


namespace Go.Proofs.YtmhhjchnjaefhaaDoor
open Go Go.RowKit
theorem clsN_eq {M : List Int} {n c d : Nat} (hm : MateOk M n) (hc : c < n) (h : Conn M c d) : clsN M n c = clsN M n d := by
  unfold clsN
  refine List.filter_congr fun u hu => ?_
  have e : Conn M c u ↔ Conn M d u := ⟨fun k => (hm.conn_symm hc h).trans k, fun k => h.trans k⟩
  rw [show Conn M c u = Conn M d u from propext e]
theorem grp_of {M : List Int} {n c : Nat} (hm : MateOk M n) (_ : c < n) {g : List Nat} (hg : g ∈ grpOf M n) (h : c ∈ g) : g = clsN M n c := by
  obtain ⟨l, hl, rfl⟩ := List.mem_map.1 hg
  exact clsN_eq hm (mem_leadsN.1 hl).1 (mem_clsN.1 h).2
theorem grp_has {M : List Int} {n : Nat} (hm : MateOk M n) : ∀ c, c < n → clsN M n c ∈ grpOf M n := fun c hc => by
  obtain ⟨l, hl, h1, h2⟩ : ∃ l, l < n ∧ Conn M l c ∧ ∀ d, d < l → ¬ Conn M d l := by
    have key : ∀ k, k ≤ n → (∃ l, l < k ∧ Conn M l c) → ∃ l, l < n ∧ Conn M l c ∧ ∀ d, d < l → ¬ Conn M d l := fun k => by
      induction k with
      | zero => rintro _ ⟨l, h, _⟩; omega
      | succ k ih =>
        rintro hk ⟨l, h, g⟩
        by_cases e : ∃ l, l < k ∧ Conn M l c
        · exact ih (by omega) e
        · have : l = k := by
            rcases Nat.lt_or_ge l k with u | u
            · exact absurd ⟨l, u, g⟩ e
            · omega
          subst this
          exact ⟨l, by omega, g, fun d hd q => e ⟨d, hd, q.trans g⟩⟩
    exact key n (Nat.le_refl _) ⟨c, hc, Conn.refl M c⟩
  exact List.mem_map.2 ⟨l, mem_leadsN.2 ⟨hl, h2⟩, clsN_eq hm hl h1⟩
theorem cls_self {M : List Int} {n c : Nat} (hc : c < n) : c ∈ clsN M n c := mem_clsN.2 ⟨hc, Conn.refl M c⟩
end Go.Proofs.YtmhhjchnjaefhaaDoor


namespace Go.Proofs.YtmhhjchnjaefhaaDoor
open Go Go.RowKit
theorem adj_mt {M : List Int} {c s : Nat} (hs : s < 4) : Adj M c (mt M (4 * c + s) / 4) := ⟨s, hs, rfl⟩
theorem ordTo_conn (M : List Int) (r : Nat) : ∀ i c, c ∈ ordTo M r i → Conn M r c
  | 0, c, h => by
    obtain rfl : c = r := by simpa [ordTo] using h
    exact Conn.refl _ _
  | i + 1, c, h => by
    rw [ordTo] at h
    split at h
    · rename_i hi
      rcases ordRow_cases h with h | ⟨s, hs, rfl⟩
      · exact ordTo_conn M r i c h
      · have h1 := ordTo_conn M r i ((ordTo M r i).getD i 0) (by rw [List.getD_eq_getElem?_getD, List.getElem?_eq_getElem hi]; exact List.getElem_mem hi)
        exact fun Q h0 hq => hq _ _ (h1 Q h0 hq) (adj_mt hs)
    · exact ordTo_conn M r i c h
theorem ordL_cl {M : List Int} {r n : Nat} (hm : ∀ x, x < 4 * n → mt M x < 4 * n) (hr : r < n) : Cl M (ordL M r n) (ordL M r n).length := by
  have hl := ordTo_len hm hr n
  have hp : ordTo M r (ordTo M r n).length <+: ordTo M r n := ordTo_pre M r hl
  have hf : ordTo M r (ordTo M r n).length = ordTo M r n := by
    obtain ⟨d, hd⟩ := Nat.exists_eq_add_of_le hl
    have := ordTo_fix (M := M) (r := r) (i := (ordTo M r n).length) hp.length_le d
    rw [← hd] at this
    exact this.symm
  have := ordTo_cl M r (ordTo M r n).length (by rw [hf]; exact Nat.le_refl _)
  rw [hf] at this
  exact this
theorem mem_ordL {M : List Int} {r n c : Nat} (hm : ∀ x, x < 4 * n → mt M x < 4 * n) (hr : r < n) : c ∈ ordL M r n ↔ Conn M r c := by
  constructor
  · exact ordTo_conn M r n c
  · intro h
    refine h (fun c => c ∈ ordL M r n) ((ordTo_pre M r (Nat.zero_le n)).subset (by simp [ordTo])) ?_
    rintro x y hx ⟨s, hs, rfl⟩
    obtain ⟨j, hj, e⟩ := List.mem_iff_getElem.1 hx
    have := (ordL_cl hm hr).2 j hj s hs
    rw [List.getD_eq_getElem?_getD, List.getElem?_eq_getElem hj] at this
    simp only [Option.getD_some] at this
    rw [e] at this
    exact this
theorem ordL_perm {M : List Int} {n : Nat} (hmo : MateOk M n) (hm : ∀ x, x < 4 * n → mt M x < 4 * n) {G : List Nat} (hG : G ∈ grpOf M n) {r : Nat} (hr : r ∈ G) : (ordL M r n).Perm G := by
  have hw := (grp_whole hmo hG).1
  have hrn := hw.lt r hr
  have hg := grp_of hmo hrn hG hr
  refine (List.perm_ext_iff_of_nodup (ordTo_nodup M r n) hw.nd).2 fun c => ?_
  show c ∈ ordL M r n ↔ c ∈ G
  rw [mem_ordL hm hrn]
  constructor
  · intro h
    rw [hg, mem_clsN]
    exact ⟨ordTo_lt hm hrn n c ((mem_ordL hm hrn).2 h), h⟩
  · intro h
    rw [hg, mem_clsN] at h
    exact h.2
theorem ordL_len {M : List Int} {n : Nat} (hmo : MateOk M n) (hm : ∀ x, x < 4 * n → mt M x < 4 * n) {G : List Nat} (hG : G ∈ grpOf M n) {r : Nat} (hr : r ∈ G) : (ordL M r n).length = G.length := (ordL_perm hmo hm hG hr).length_eq
end Go.Proofs.YtmhhjchnjaefhaaDoor


namespace Go.Proofs.YtmhhjchnjaefhaaDoor
open Go Go.RowKit
set_option maxRecDepth 100000
set_option maxHeartbeats 1000000
theorem isNaN_any (x : Int) (w : World) : Calls Tryd.prog 85 #[.int .i64 x] w fun e w' => e = .returned (.bool false) ∧ w' = w := by
  have t1 : (x != x) = false := by simp
  go_enter Tryd.func85, Tryd.ntmps85
  go_wp2_with fail
  go_ret
  exact ⟨rfl, rfl⟩
theorem cmp_any (x y : Int) (w : World) : Calls Tryd.prog 77 #[.int .i64 x, .int .i64 y] w fun e w' => e = .returned (.int .i64 (cmp3 x y)) ∧ w' = w := by
  have HC := Lib.hid isNaN_any
  by_cases h1 : x < y
  · have t1 : decide (x < y) = true := decide_eq_true h1
    have hr : Hid (cmp3 x y = -1) := Lib.hid (by unfold cmp3; rw [if_pos h1])
    clear h1
    go_enter Tryd.func77, Tryd.ntmps77
    go_wp2_with fail
    refine (HC.out _ _).mono ?_
    rintro e w1 ⟨rfl, rfl⟩
    go_wp2_with fail
    refine (HC.out _ _).mono ?_
    rintro e w1 ⟨rfl, rfl⟩
    go_wp2_with fail
    go_ret
    rw [hr.out]; exact ⟨rfl, rfl⟩
  · have t1 : decide (x < y) = false := decide_eq_false h1
    by_cases h2 : y < x
    · have t2 : decide (y < x) = true := decide_eq_true h2
      have hr : Hid (cmp3 x y = 1) := Lib.hid (by unfold cmp3; rw [if_neg h1, if_pos h2])
      clear h1 h2
      go_enter Tryd.func77, Tryd.ntmps77
      go_wp2_with fail
      refine (HC.out _ _).mono ?_
      rintro e w1 ⟨rfl, rfl⟩
      go_wp2_with fail
      refine (HC.out _ _).mono ?_
      rintro e w1 ⟨rfl, rfl⟩
      go_wp2_with fail
      go_ret
      rw [hr.out]; exact ⟨rfl, rfl⟩
    · have t2 : decide (y < x) = false := decide_eq_false h2
      have hr : Hid (cmp3 x y = 0) := Lib.hid (by unfold cmp3; rw [if_neg h1, if_neg h2])
      clear h1 h2
      go_enter Tryd.func77, Tryd.ntmps77
      go_wp2_with fail
      refine (HC.out _ _).mono ?_
      rintro e w1 ⟨rfl, rfl⟩
      go_wp2_with fail
      refine (HC.out _ _).mono ?_
      rintro e w1 ⟨rfl, rfl⟩
      go_wp2_with fail
      go_ret
      rw [hr.out]; exact ⟨rfl, rfl⟩
theorem compare_any (xs ys : List Int) (a b : Option Addr) (c d : Nat) (w : World) (hx : xs.length ≤ 1000000000) (hy : ys.length ≤ 1000000000) (hA : IntsAt w a xs) (hB : IntsAt w b ys) :
    Calls Tryd.prog 69 #[.slice a xs.length c, .slice b ys.length d] w fun e w' => e = .returned (.int .i64 (cmpL xs ys)) ∧ w' = w := by
  have HC := Lib.hid cmp_any
  have HA := Lib.hid hA
  have HB := Lib.hid hB
  clear hA hB
  go_enter Tryd.func69, Tryd.ntmps69
  go_wp2_with fail
  go_loopg [11] xs.length (fun g i wr => ∃ k : Nat, k ≤ xs.length ∧ g = xs.length - k ∧ i = .int .i64 k ∧ wr = w ∧ k ≤ ys.length ∧ Hid (cmpL xs ys = cmpL (xs.drop k) (ys.drop k)))
  case atStart => exact ⟨0, Nat.zero_le _, rfl, rfl, rfl, Nat.zero_le _, Lib.hid rfl⟩
  case round =>
    obtain ⟨k, hk, rfl, rfl, rfl, hky, He⟩ := hrel
    by_cases hlt : k < xs.length
    · obtain ⟨ba, oa, rfl, _, hca⟩ := HA.out.open (by omega)
      have h1 := hca k hlt
      clear hca
      by_cases hly : k < ys.length
      · obtain ⟨bb, ob, rfl, _, hcb⟩ := HB.out.open (by omega)
        have h2 := hcb k hly
        clear hcb
        replace He := Lib.hid (He.out.trans (cmpL_drop hlt hly))
        have t1 : decide ((k : Int) ≥ (ys.length : Int)) = false := decide_eq_false (by omega)
        generalize hc : cmp3 (nth xs k) (nth ys k) = q at *
        have Hc := Lib.hid hc
        clear hc
        by_cases hq : q = 0
        · have t2 : (q != 0) = false := by rw [hq]; simp
          replace He := Lib.hid (by have := He.out; rw [if_pos hq] at this; exact this)
          clear hq
          go_wp2_with fail
          refine (HC.out _ _ _).mono ?_
          rintro e w1 ⟨rfl, rfl⟩
          rw [Hc.out]
          go_wp2_with fail
          go_roundg (xs.length - (k + 1))
          case measure => omega
          case rel => exact ⟨k + 1, by omega, rfl, by go_num, rfl, by omega, He⟩
        · have t2 : (q != 0) = true := by simpa using hq
          replace He := Lib.hid (by have := He.out; rw [if_neg hq] at this; exact this)
          clear hq
          go_wp2_with fail
          refine (HC.out _ _ _).mono ?_
          rintro e w1 ⟨rfl, rfl⟩
          rw [Hc.out]
          go_wp2_with fail
          go_ret
          rw [He.out]; exact ⟨rfl, rfl⟩
      · have t1 : decide ((k : Int) ≥ (ys.length : Int)) = true := decide_eq_true (by omega)
        replace He := Lib.hid (He.out.trans (cmpL_done hlt (by omega)))
        go_wp2_with fail
        go_ret
        rw [He.out]; exact ⟨rfl, rfl⟩
    · obtain rfl : k = xs.length := by omega
      replace He := Lib.hid (He.out.trans (cmpL_end hky))
      by_cases hl : xs.length < ys.length
      · have t1 : decide ((xs.length : Int) < (ys.length : Int)) = true := decide_eq_true (by omega)
        replace He := Lib.hid (by have := He.out; rw [if_pos hl] at this; exact this)
        go_wp2_with fail
        go_ret
        rw [He.out]; exact ⟨rfl, rfl⟩
      · have t1 : decide ((xs.length : Int) < (ys.length : Int)) = false := decide_eq_false (by omega)
        replace He := Lib.hid (by have := He.out; rw [if_neg hl] at this; exact this)
        go_wp2_with fail
        go_ret
        rw [He.out]; exact ⟨rfl, rfl⟩
end Go.Proofs.YtmhhjchnjaefhaaDoor


namespace Go.Proofs.YtmhhjchnjaefhaaDoor
open Go Go.RowKit
/-- The search from c: what is seen, what waits; of b the first k ends have been looked at. -/
structure Sr (M : List Int) (x y n c : Nat) (old : Nat → Prop) (seen : List Bool) (rest : List Nat) (b k : Nat) : Prop where
  len : seen.length = n
  only : ∀ d, d < n → bth seen d = true → old d ∨ ConnW M x y c d
  olds : ∀ d, d < n → old d → bth seen d = true
  root : bth seen c = true
  wait : ∀ d ∈ rest, d < n ∧ bth seen d = true ∧ ConnW M x y c d
  done : ∀ d, d < n → bth seen d = true → ¬ old d → d ∉ rest → d ≠ b → ∀ e, AdjW M x y d e → bth seen e = true
  now : b < n → ConnW M x y c b ∧ ∀ s, s < k → 4 * b + s ≠ x → mt M (4 * b + s) ≠ x → 4 * b + s ≠ y → mt M (4 * b + s) ≠ y → bth seen (mt M (4 * b + s) / 4) = true
namespace Sr
variable {M : List Int} {x y n c b k : Nat} {old : Nat → Prop} {seen : List Bool} {rest : List Nat}
theorem start (hl : seen.length = n) (hc : c < n) (ho : ∀ d, d < n → (bth seen d = true ↔ old d)) : Sr M x y n c old (seen.set c true) [c] n 0 := by
  have hs := fun j => bth_set seen c j true (by omega)
  refine ⟨by rw [List.length_set, hl], fun d hd h => ?_, fun d hd h => ?_, ?_, fun d hd => ?_, fun d hd h hn hr => ?_, fun h => absurd h (Nat.lt_irrefl _)⟩
  · rw [hs] at h
    by_cases e : c = d
    · subst e; exact .inr (ConnW.refl M x y c)
    · rw [if_neg e] at h; exact .inl ((ho d hd).1 h)
  · rw [hs]
    by_cases e : c = d
    · rw [if_pos e]
    · rw [if_neg e]; exact (ho d hd).2 h
  · rw [hs, if_pos rfl]
  · obtain rfl := List.mem_singleton.1 hd
    exact ⟨hc, by rw [hs, if_pos rfl], ConnW.refl M x y d⟩
  · rw [hs] at h
    by_cases e : c = d
    · subst e; exact absurd (List.mem_singleton.2 rfl) hr
    · rw [if_neg e] at h; exact absurd ((ho d hd).1 h) hn
end Sr
end Go.Proofs.YtmhhjchnjaefhaaDoor


namespace Go.Proofs.YtmhhjchnjaefhaaDoor
open Go Go.RowKit
theorem ints_nats_snoc (l : List Nat) (m : Nat) : ints (nats l) ++ [.int .i64 (m : Int)] = ints (nats (l ++ [m])) := by rw [← nats_snoc, ← ints_snoc]
theorem natsv_len (l : List Nat) : (ints (nats l)).length = l.length := by rw [ints_length, nats_length]
end Go.Proofs.YtmhhjchnjaefhaaDoor


namespace Go.Proofs.YtmhhjchnjaefhaaDoor
open Go Go.RowKit
def fromA (A : Option Addr) (i c : Nat) : Option Addr := if c = i then A else A.map (·.add (i * 1))
theorem IntsAt.from {w : World} {A : Option Addr} {zs : List Int} (h : IntsAt w A zs) {i c : Nat} (hc : zs.length ≤ c) : IntsAt w (fromA A i c) (zs.drop i) := by
  unfold fromA
  by_cases e : c = i
  · rw [if_pos e, List.drop_eq_nil_of_le (by omega)]; exact IntsAt.nil _ _
  · rw [if_neg e]
    intro j v hj
    rw [← ints_drop, List.getElem?_drop] at hj
    obtain ⟨b, off, rfl, hv⟩ := h (i + j) v hj
    exact ⟨b, off + i, by rw [Option.map_some, Addr.add_lit, Nat.mul_one], by rw [Nat.add_assoc]; exact hv⟩
theorem IntsAt.take {w : World} {A : Option Addr} {zs : List Int} (h : IntsAt w A zs) (i : Nat) : IntsAt w A (zs.take i) := fun j v hj => by
  have hjl := (List.getElem?_eq_some_iff.1 hj).1
  rw [ints_length, List.length_take] at hjl
  rw [ints_get _ _ (by rw [List.length_take]; exact hjl)] at hj
  refine h j v ?_
  rw [ints_get _ _ (by omega), ← hj]
  have : nth (zs.take i) j = nth zs j := by unfold nth; rw [List.getD_eq_getElem?_getD, List.getD_eq_getElem?_getD, List.getElem?_take_of_lt (by omega)]
  rw [this]
section
variable {P : Program}
theorem run_from' {t E : TypeId} {i : TypeInfo} (h1 : P.underlying t = some (.slice E)) (h2 : P.info? E = some i) (h4 : i.size = 1) (A : Option Addr) (n c k : Nat) (hk : k ≤ n) (x : Int) (hx : x = (k : Int)) (w : World) :
    (Instr.slice t (.slice A n c) (some (.int .i64 x)) none none).run P w = .ok (.slice (fromA A k c) (n - k) (c - k)) w := by
  subst hx
  have he : P.elem t = E := by simp [Program.elem, h1]
  have h1' : P.underlying t = some (.slice (P.elem t)) := by rw [he]; exact h1
  have hs : (sizeOf (P.elem t)).run P w = .ok 1 w := by rw [he]; simp [sizeOf, typeInfo, h2, h4]
  have hr := run_slice_l (P := P) w t A n c h1' .i64 (k : Int) (by omega) (by omega)
  rw [hs] at hr
  rw [hr]
  simp [Result.andThen, sliced, fromA]
theorem run_mid' {t E : TypeId} {i : TypeInfo} (h1 : P.underlying t = some (.slice E)) (h2 : P.info? E = some i) (h4 : i.size = 1) (A : Option Addr) (n c k l : Nat) (hk : k ≤ l) (hl : l ≤ c) (x y : Int) (hx : x = (k : Int)) (hy : y = (l : Int)) (w : World) :
    (Instr.slice t (.slice A n c) (some (.int .i64 x)) (some (.int .i64 y)) none).run P w = .ok (.slice (fromA A k c) (l - k) (c - k)) w := by
  subst hx hy
  have he : P.elem t = E := by simp [Program.elem, h1]
  have h1' : P.underlying t = some (.slice (P.elem t)) := by rw [he]; exact h1
  have hs : (sizeOf (P.elem t)).run P w = .ok 1 w := by rw [he]; simp [sizeOf, typeInfo, h2, h4]
  have hr := run_slice_lh (P := P) w t A n c h1' .i64 .i64 (k : Int) (l : Int) (by omega) (by omega) (by omega)
  rw [hs] at hr
  rw [hr]
  simp [Result.andThen, sliced, fromA]
end
end Go.Proofs.YtmhhjchnjaefhaaDoor


