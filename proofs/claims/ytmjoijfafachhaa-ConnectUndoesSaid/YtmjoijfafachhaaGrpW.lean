/- diagram.Graph: the parts of a diagram, as lists. -/
import Derived.Test.YtmjoijfafachhaaConE
import Derived.Test.YtmjoijfafachhaaConM
import Derived.Test.YtmjoijfafachhaaValidW
namespace Go.Proofs.Ytmjoijfafachhaa
open Go Go.RowKit
theorem nthO_get {α : Type} : ∀ (l : List α) (i : Nat), nthO l i = l[i]?
  | [], _ => rfl
  | _ :: _, 0 => rfl
  | _ :: l, i + 1 => by show nthO l i = _; rw [nthO_get l i]; rfl
theorem setO_set {α : Type} : ∀ (l : List α) (i : Nat) (y : α), setO l i y = l.set i y
  | [], _, _ => rfl
  | _ :: _, 0, _ => rfl
  | x :: l, i + 1, y => by show x :: setO l i y = _; rw [setO_set l i y]; rfl
/-- Slices told by functions. -/
def gms (A : Nat → Option Addr) (C : Nat → Nat) (Z : Nat → List Int) (k : Nat) : List SlO := (List.range k).map fun m => ⟨A m, C m, 3, ints (Z m)⟩
def updF {α : Type} (f : Nat → α) (m : Nat) (x : α) : Nat → α := fun i => if i = m then x else f i
theorem gms_nth {A : Nat → Option Addr} {C : Nat → Nat} {Z : Nat → List Int} {k m : Nat} (h : m < k) : nthO (gms A C Z k) m = some ⟨A m, C m, 3, ints (Z m)⟩ := by rw [nthO_get]; simp [gms, h]
theorem gms_set {A : Nat → Option Addr} {C : Nat → Nat} {Z : Nat → List Int} {k m : Nat} (_ : m < k) (a : Option Addr) (c : Nat) (xs : List Int) : setO (gms A C Z k) m ⟨a, c, 3, ints xs⟩ = gms (updF A m a) (updF C m c) (updF Z m xs) k := by
  rw [setO_set]
  apply List.ext_getElem
  · simp [gms]
  · intro i h1 h2
    rw [List.getElem_set]
    simp only [gms, List.getElem_map, List.getElem_range, updF]
    by_cases e : m = i
    · subst e; simp
    · rw [if_neg e, if_neg (fun g => e g.symm), if_neg (fun g => e g.symm), if_neg (fun g => e g.symm)]
def gmV (A : Nat → Option Addr) (C : Nat → Nat) (Z : Nat → List Int) (k : Nat) : List Value := (List.range k).map fun m => .slice (A m) (Z m).length (C m)
theorem gmV_len (A : Nat → Option Addr) (C : Nat → Nat) (Z : Nat → List Int) (k : Nat) : (gmV A C Z k).length = k := by simp [gmV]
theorem gmV_get {A : Nat → Option Addr} {C : Nat → Nat} {Z : Nat → List Int} {k m : Nat} (h : m < k) : (gmV A C Z k)[m]? = some (.slice (A m) (Z m).length (C m)) := by simp [gmV, h]
theorem gmV_set {A : Nat → Option Addr} {C : Nat → Nat} {Z : Nat → List Int} {k m : Nat} (a : Option Addr) (c : Nat) (xs : List Int) : (gmV A C Z k).set m (.slice a xs.length c) = gmV (updF A m a) (updF C m c) (updF Z m xs) k := by
  apply List.ext_getElem
  · simp [gmV]
  · intro i h1 h2
    rw [List.getElem_set]
    simp only [gmV, List.getElem_map, List.getElem_range, updF]
    by_cases e : m = i
    · subst e; simp
    · rw [if_neg e, if_neg (fun g => e g.symm), if_neg (fun g => e g.symm), if_neg (fun g => e g.symm)]
theorem updF_same {α : Type} (f : Nat → α) (m : Nat) (x : α) (h : x = f m) : updF f m x = f := by
  funext i; unfold updF; split
  · rename_i e; rw [e, h]
  · rfl
/-- The crossings ahead of c that bear number p. -/
def clsP (part : List Int) (c p : Nat) : List Nat := (List.range c).filter fun d => decide (nth part d = (p : Int))
theorem clsP_step (part : List Int) (c p : Nat) (h : nth part c = (p : Int)) : (fun q => nats (clsP part (c + 1) q)) = updF (fun q => nats (clsP part c q)) p (nats (clsP part c p) ++ [(c : Int)]) := by
  funext q
  unfold updF clsP
  rw [List.range_succ, List.filter_append]
  by_cases e : q = p
  · rw [if_pos e, e, nats_snoc]; simp [h]
  · rw [if_neg e]
    have : ¬ nth part c = (q : Int) := by omega
    simp [this]
theorem clsP_len (part : List Int) (c p : Nat) : (clsP part c p).length ≤ c := by
  have := List.length_filter_le (fun d => decide (nth part d = (p : Int))) (List.range c)
  rwa [List.length_range] at this
theorem rowsOf_gms {w0 w : World} {l : Kn} {A : Nat → Option Addr} {C : Nat → Nat} {Z : Nat → List Int} {k : Nat} {s : List SlO} (h : HH w0 w l (s ++ gms A C Z k)) : RowsOf w w0.heap.size (gmV A C Z k) ((List.range k).map Z) := by
  refine ⟨by simp [gmV], fun i v xs h1 h2 => ?_⟩
  have hi : i < k := by have := (List.getElem?_eq_some_iff.1 h2).1; simpa using this
  rw [gmV_get hi] at h1
  cases h1
  have e : Z i = xs := by simpa [hi] using h2
  subst e
  exact ⟨A i, C i, rfl, h.own _ (List.mem_append_right _ (by unfold gms; exact List.mem_map.2 ⟨i, List.mem_range.2 hi, rfl⟩))⟩
theorem HH.addNils {w0 w : World} {l : Kn} {s : List SlO} (h : HH w0 w l s) (k : Nat) : HH w0 w l (s ++ gms (fun _ => none) (fun _ => 0) (fun _ => []) k) := by
  induction k with
  | zero => simpa [gms] using h
  | succ k ih =>
    have := ih.addNil 3
    unfold gms at this ⊢
    rw [List.range_succ, List.map_append, ← List.append_assoc]
    exact this
set_option maxRecDepth 100000 in
set_option maxHeartbeats 4000000 in
theorem graph_any (S M : List Int) (L : Int) (aS aM : Option Addr) (cS cM : Nat) (w : World) (hv : vldB S M L = true) (hS : IntsAt w aS S) (hM : IntsAt w aM M) :
    Calls Try.prog 28 #[.agg #[.slice aS S.length cS, .slice aM M.length cM, .int .i64 L]] w fun e w' => ∃ a c, e = .returned (.slice a (grpOf M S.length).length c) ∧ OwnRows w' w.heap.size a c ((grpOf M S.length).map nats) ∧ Below w.heap.size w w' := by
  have hs := vldB_shape hv
  have hm := hs.mates
  have hfw := hs.few
  obtain ⟨part, parts, hlb, hLb⟩ := label_spec hm (by omega)
  have hge := groups_eq hLb (label_ordered hm (by omega) hlb)
  have HV : Hid (∀ W', Below w.heap.size w W' → Calls Try.prog 26 #[.agg #[.slice aS S.length cS, .slice aM M.length cM, .int .i64 L]] W' fun e w' => e = .returned (.bool true) ∧ Below W'.heap.size W' w') := Lib.hid fun W' h => by
    have g := valid_any S M L aS aM cS cM W' (by omega) (by rw [hs.len]; omega) (hS.later h) (hM.later h)
    rw [hv] at g; exact g
  have HLa : Hid (∀ W', Below w.heap.size w W' → Calls Try.prog 68 #[.agg #[.slice aS S.length cS, .slice aM M.length cM, .int .i64 L]] W' fun e w' => ∃ a c, e = .returned (.tuple #[.slice a part.length c, .int .i64 (parts : Int)]) ∧ Below W'.heap.size W' w' ∧ Own w' W'.heap.size 3 a c (ints part)) := Lib.hid fun W' h => label_any S M L aS aM cS cM W' 1000000 part (parts : Int) (by omega) (by omega) hs.len (hM.later h) hs.range hlb
  have HP : Hid (∀ c, c < part.length → ∃ p : Nat, p < parts ∧ nth part c = (p : Int)) := Lib.hid fun c hc => by
    have := hLb.range c (by rw [← hLb.len]; exact hc)
    exact ⟨(nth part c).toNat, by omega, by omega⟩
  have hpn := hLb.le
  have HG : Hid ((grpOf M S.length).map nats = (List.range parts).map fun p => nats (clsP part part.length p)) := Lib.hid (by rw [← hge, List.map_map, hLb.len]; rfl)
  have HGl : Hid ((grpOf M S.length).length = parts) := Lib.hid (by have := congrArg List.length HG.out; simpa using this)
  rw [HG.out, HGl.out]
  have hpl := hLb.len
  have hpl2 : part.length ≤ 64 := by omega
  have hmk := run_mk1 (T := 42) (z := .slice none 0 0) (bytes := 24) Try.underlying42 Try.info22 rfl parts parts (Nat.le_refl _) (by omega) (by omega)
  obtain ⟨i0, hi0, hz0, hz1, hz2⟩ := info_parts Try.info3
  have H0 := Lib.hid ((HH.start w).alloc #[.slice aS S.length cS, .slice aM M.length cM, .int .i64 L] 24 rfl rfl)
  clear hs hm hv hS hM hlb hLb hge HG HGl hpl
  generalize S.length = n at *
  generalize M.length = N at *
  go_enter Try.func28, Try.ntmps28
  go_wp2_with fail
  refine (HV.out _ H0.out.below).mono ?_
  rintro e w1 ⟨rfl, hb⟩
  have H1 := Lib.hid (H0.out.call hb)
  clear hb H0 HV
  have c1 := H1.out.cell (k := 0) (i := 0) rfl rfl
  have c2 := H1.out.cell (k := 0) (i := 1) rfl rfl
  have c3 := H1.out.cell (k := 0) (i := 2) rfl rfl
  go_wp2_with fail
  clear c1 c2 c3
  refine (HLa.out _ H1.out.below).mono ?_
  rintro e w2 ⟨aP, cP, rfl, hb, ho⟩
  have H2 := Lib.hid (H1.out.addSl hb ho)
  clear hb ho H1 HLa
  have H3 := Lib.hid (H2.out.alloc (Array.replicate parts (.slice none 0 0)) 22 rfl (vs := gmV (fun _ => none) (fun _ => 0) (fun q => nats (clsP part 0 q)) parts) (by
    rw [Array.toList_replicate]
    apply List.ext_getElem
    · simp [gmV]
    · intro i h1 h2; simp [gmV, clsP, nats]))
  go_wp2_with fail
  have h4 := H3.out.addNils parts
  have H4 : Hid (HH w (w2.alloc (Obj.cells (Array.replicate parts (Value.slice none 0 0)) 22)) [(w.heap.size, rowO 24 [.slice aS n cS, .slice aM N cM, .int .i64 L]), (w2.heap.size, rowO 22 (gmV (fun _ => none) (fun _ => 0) (fun q => nats (clsP part 0 q)) parts))] (⟨aP, cP, 3, ints part⟩ :: gms (fun _ => none) (fun _ => 0) (fun q => nats (clsP part 0 q)) parts)) := Lib.hid h4
  clear h4 H3 H2 hmk
  generalize w2.heap.size = og at *
  go_loopg [20] part.length (fun g v wr => ∃ (c : Nat) (A : Nat → Option Addr) (C : Nat → Nat), c ≤ part.length ∧ g = part.length - c ∧ v = .int .i64 c ∧ HH w wr [(w.heap.size, rowO 24 [.slice aS n cS, .slice aM N cM, .int .i64 L]), (og, rowO 22 (gmV A C (fun q => nats (clsP part c q)) parts))] (⟨aP, cP, 3, ints part⟩ :: gms A C (fun q => nats (clsP part c q)) parts))
  case atStart => exact ⟨0, _, _, Nat.zero_le _, rfl, rfl, H4.out⟩
  case round =>
    obtain ⟨c, A, C, hc, rfl, rfl, hh⟩ := hrel
    have Hh := Lib.hid hh
    clear hh H4
    by_cases hcl : c < part.length
    · obtain ⟨p, hp, hpv⟩ := HP.out c hcl
      obtain ⟨b2, o2, rfl, _, _, hcR, _⟩ := (Hh.out.sl (k := 0) rfl).open (by show 0 < (ints part).length; rw [ints_length]; omega)
      have hcx := hcR c _ (ints_get part c hcl)
      rw [hpv] at hcx
      clear hcR
      have hcg := Hh.out.cell (k := 1) (i := p) rfl (gmV_get hp)
      have HZ := Lib.hid (clsP_step part c p hpv)
      have hzl := clsP_len part c p
      have Ha0 := Lib.hid (Hh.out.call ((Below.refl _ _).alloc (Nat.le_refl _) (.cells #[.int .i64 (c : Int)] 3)))
      have Hc0 : Hid ((wr.alloc (.cells #[.int .i64 (c : Int)] 3)).cell? ⟨wr.heap.size, 0, none⟩ = some (.int .i64 (c : Int))) := Lib.hid ((Row.new wr #[.int .i64 (c : Int)] 3).cell 0)
      have Hl1 : Hid (w.heap.size ≤ (wr.alloc (.cells #[.int .i64 (c : Int)] 3)).heap.size) := Lib.hid Ha0.out.below.size
      have Hsl : Hid (Own (wr.alloc (.cells #[.int .i64 (c : Int)] 3)) w.heap.size 3 (A p) (C p) (ints (nats (clsP part c p)))) := Lib.hid (Ha0.out.sl (k := p + 1) (gms_nth hp))
      have Hsn : Hid ((ints (nats (clsP part c p))).length = (clsP part c p).length) := Lib.hid (by rw [ints_length, nats_length])
      rw [nats_length] at hcg
      have e1 : decide ((p : Int) < 0) = false := decide_eq_false (by omega)
      have e2 : decide ((parts : Int) ≤ (p : Int)) = false := decide_eq_false (by omega)
      have e3 : decide (parts ≤ p) = false := decide_eq_false (by omega)
      clear hpv
      have HGr : Hid (∀ (A3 : Option Addr) (e3 : Nat) (w7 : World), Own w7 w.heap.size 3 A3 e3 (ints (nats (clsP part c p)) ++ [.int .i64 (c : Int)]) → Turned (wr.alloc (.cells #[.int .i64 (c : Int)] 3)) w7 (A p) → (∀ x, A3 = some x → ((wr.alloc (.cells #[.int .i64 (c : Int)] 3)).heap.size ≤ x.block ∨ ∃ y, A p = some y ∧ x = y)) →
          HH w w7 [(w.heap.size, rowO 24 [.slice aS n cS, .slice aM N cM, .int .i64 L]), (og, rowO 22 (gmV A C (fun q => nats (clsP part c q)) parts))] (⟨some ⟨b2, o2, none⟩, cP, 3, ints part⟩ :: gms (updF A p A3) (updF C p e3) (fun q => nats (clsP part (c + 1) q)) parts)) := Lib.hid fun A3 e3 w7 h1 h2 h3 => by
        have h := Ha0.out.grow (k := p + 1) (gms_nth hp) h1 h2 h3
        have e := gms_set (A := A) (C := C) (Z := fun q => nats (clsP part c q)) hp A3 e3 (nats (clsP part c p) ++ [(c : Int)])
        rw [HZ.out, ← e, ← ints_snoc]
        exact h
      go_wp2_with (with_reducible refine wpList_append_one rfl (.tmp 30) (.tmp 32) 22 rfl w.heap.size 3 i0 (.int .i64 0) 8 Try.underlying22 hi0 hz0 hz1 hz2 rfl (A p) (clsP part c p).length (C p) (ints (nats (clsP part c p))) rfl Hsn.out Hsl.out _ 1 (.int .i64 (c : Int)) rfl Hc0.out rfl (by omega) (by omega) Hl1.out ?_; intro A3 e3 w7 hO2 hT2 hA2; have H8 := Lib.hid (HGr.out A3 e3 w7 hO2 hT2 hA2); have hcg2 := H8.out.cell (k := 1) (i := p) rfl (gmV_get hp); have hfg2 := H8.out.frozen (k := 1) rfl p; clear hO2 hT2 hA2)
      go_roundg (part.length - (c + 1))
      case measure => omega
      case rel =>
        refine ⟨c + 1, updF A p A3, updF C p e3, by omega, rfl, by go_num, ?_⟩
        have h := H8.out.set (k := 1) rfl p (.slice A3 ((clsP part c p).length + 1) e3)
        have e := gmV_set (A := A) (C := C) (Z := fun q => nats (clsP part c q)) (k := parts) (m := p) A3 e3 (nats (clsP part c p) ++ [(c : Int)])
        rw [List.length_append, nats_length] at e
        rw [HZ.out, ← e, ← HZ.out]
        exact h
    · obtain rfl : c = part.length := by omega
      go_wp2_with fail
      go_ret
      refine ⟨_, _, rfl, ⟨_, ?_, rowsOf_gms (s := [⟨aP, cP, 3, ints part⟩]) Hh.out⟩, Hh.out.below⟩
      have h := (Hh.out.row (k := 1) rfl).own (B := w.heap.size) (Hh.out.obj (k := 1) rfl).1
      rw [gmV_len] at h
      exact h
end Go.Proofs.Ytmjoijfafachhaa
