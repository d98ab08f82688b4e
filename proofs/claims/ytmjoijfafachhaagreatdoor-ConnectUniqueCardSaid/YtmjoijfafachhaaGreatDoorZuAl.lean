/- diagram.Faces and connect.left: the number of the face of each half-edge. The walks of connect.outgoing, end, cross. -/
import Derived.WalkKit
import Derived.WalkSpells
import Derived.WalkLawsBesides
import Derived.Deep.AppendSrc
import Derived.Deep.LoopGhost
import Derived.Deep.QuietTactic
import Derived.Deep.RegionWith
import Derived.Deep.DeepMust
import Derived.Deep.DeepFit
import Derived.BigQuiet
import Derived.Lib.Hide
import Derived.Outline
import Derived.Test.YtmjoijfafachhaaGreatDoorProg
import Derived.Deep.Matrix
import Derived.Deep.DeepCutAuto
import Derived.Deep.RegionLaw
import Derived.Deep.RegionHeld3
import Derived.Test.YtmjoijfafachhaaGreatDoorZuAa
import Derived.Test.YtmjoijfafachhaaGreatDoorZuAb
import Derived.Test.YtmjoijfafachhaaGreatDoorZuAc
import Derived.Test.YtmjoijfafachhaaGreatDoorZuAd
import Derived.Test.YtmjoijfafachhaaGreatDoorZuAe
import Derived.Test.YtmjoijfafachhaaGreatDoorZuAf
import Derived.Test.YtmjoijfafachhaaGreatDoorZuAg
import Derived.Test.YtmjoijfafachhaaGreatDoorZuAj
import Derived.Test.YtmjoijfafachhaaGreatDoorZuAh
namespace Go.Proofs.YtmjoijfafachhaaGreatDoor
open Go Go.RowKit
def facesL (M : List Int) (n : Nat) : List (List Nat) := cycs (fc M) (perOf (fc M) (4 * n)) (fun _ => true) (4 * n)
set_option maxRecDepth 100000 in
set_option maxHeartbeats 1000000 in
theorem faces1_any (w : World) (N : Nat) : BoolFn w 62 #[] N (fun _ => true) := by
  intro W x hW hx
  show Calls Tryz.prog 62 #[.int .i64 (x : Int)] W _
  go_enter Tryz.func62, Tryz.ntmps62
  go_wp2_with fail
  go_ret
  exact ⟨rfl, Below.refl _ _⟩
set_option maxRecDepth 100000 in
set_option maxHeartbeats 1000000 in
theorem faces2_any (S M : List Int) (L : Int) (aS aM : Option Addr) (cS cM : Nat) (w : World) (b : Nat) (hs : Shape S M L) (hM : IntsAt w aM M) (hbox : Row w b 24 [.slice aS S.length cS, .slice aM M.length cM, .int .i64 L]) :
    NatFn w 64 #[.pointer (some ⟨b, 0, none⟩)] (4 * S.length) (fc M) := by
  intro W x hW hx
  have hbx := (hbox.later hW hbox.lt).cell 1
  simp only [List.getElem?_cons_succ, List.getElem?_cons_zero] at hbx
  obtain ⟨b2, off, rfl, hbl, hc⟩ := (hM.later hW).open (by rw [hs.len]; omega)
  have hcx := hc x (by rw [hs.len]; exact hx)
  obtain ⟨hm0, hm1⟩ := hs.range x hx
  have hres : fc M x = tn (nth M x).toNat (-1) := rfl
  obtain ⟨m, hm⟩ := Int.eq_ofNat_of_zero_le hm0
  rw [hm, Int.toNat_natCast] at hres
  rw [hm] at hcx hm1
  have Hres := Lib.hid hres
  have hML : (x : Int) < (M.length : Int) := by rw [hs.len]; omega
  have hfw := hs.few
  clear hc hm hm0 hM hbox hW hres hs
  show Calls Tryz.prog 64 #[.int .i64 (x : Int), .pointer (some ⟨b, 0, none⟩)] W _
  go_enter Tryz.func64, Tryz.ntmps64
  go_wp2_with fail
  refine (turn_any m (-1) _ (by omega) (by omega) (by omega)).mono ?_
  rintro e w1 ⟨rfl, rfl⟩
  go_wp2_with fail
  go_ret
  rw [Hres.out]
  exact ⟨rfl, Below.refl _ _⟩
set_option maxRecDepth 100000 in
set_option maxHeartbeats 1000000 in
theorem faces_own (S M : List Int) (L : Int) (aS aM : Option Addr) (cS cM : Nat) (w : World) (hv : vldB S M L = true) (hS : IntsAt w aS S) (hM : IntsAt w aM M) :
    Calls Tryz.prog 41 #[.agg #[.slice aS S.length cS, .slice aM M.length cM, .int .i64 L]] w fun e w' => ∃ a c, e = .returned (.slice a (facesL M S.length).length c) ∧ Below w.heap.size w w' ∧ OwnRows w' w.heap.size a c ((facesL M S.length).map nats) := by
  have hB : Below w.heap.size w (w.alloc (.cells #[.slice aS S.length cS, .slice aM M.length cM, .int .i64 L] 24)) := (Below.refl _ _).alloc (Nat.le_refl _) _
  have hs := vldB_shape hv
  have hfw := hs.few
  have HV := Lib.hid (valid_any S M L aS aM cS cM (w.alloc (.cells #[.slice aS S.length cS, .slice aM M.length cM, .int .i64 L] 24)) (by omega) (by rw [hs.len]; omega) (hS.later hB) (hM.later hB))
  have Hbox := Lib.hid (Row.new w #[.slice aS S.length cS, .slice aM M.length cM, .int .i64 L] 24)
  have hi := hs.mates2.inj
  rw [hv] at HV
  have Hi := Lib.hid hi
  have Hs := Lib.hid hs
  have HM := Lib.hid hM
  have HB := Lib.hid hB
  clear hv hs hS hM hB hi
  go_enter Tryz.func41, Tryz.ntmps41
  go_wp2_with fail
  refine HV.out.mono ?_
  rintro e w1 ⟨rfl, hb1⟩
  have Hb1 := Lib.hid (below_of HB.out hb1 (by simp))
  have Hbox1 := Lib.hid (Hbox.out.later hb1 (by simp))
  have hc1 := Hbox1.out.cell 1
  simp only [List.getElem?_cons_succ, List.getElem?_cons_zero] at hc1
  clear hb1
  go_wp2_with fail
  rw [Hs.out.len]
  refine (cycles_any 64 62 #[.pointer (some ⟨w.heap.size, 0, none⟩)] #[] (4 * S.length) (fc M) (perOf (fc M) (4 * S.length)) (fun _ => true) w1 (by omega) Tryz.call64 Tryz.call62
    (faces2_any S M L aS aM cS cM w1 _ Hs.out (HM.out.later Hb1.out) Hbox1.out) (faces1_any w1 _) Hi.out.lt (fun x hx => perOf_spec Hi.out x hx) (fun x hx => Nat.le_trans (perOf_le _ _ _ (by omega)) (by omega))).mono ?_
  rintro e w2 ⟨A, c, rfl, hb2, hR⟩
  have Hb2 := Lib.hid (below_step Hb1.out hb2)
  have HR := Lib.hid (hR.mono (B' := w.heap.size) Hb1.out.size)
  clear hb2 hR
  go_wp2_with fail
  go_ret
  exact ⟨A, c, rfl, Hb2.out, HR.out⟩
def setAll (l : List Nat) (v : Int) (F : List Int) : List Int := l.foldl (fun F h => F.set h v) F
def leftTo (ls : List (List Nat)) (N : Nat) : Nat → List Int
  | 0 => List.replicate N 0
  | i + 1 => setAll (ls.getD i []) (i : Int) (leftTo ls N i)
theorem setAll_len (l : List Nat) (v : Int) : ∀ F : List Int, (setAll l v F).length = F.length := by
  induction l with
  | nil => intro F; rfl
  | cons x l ih => intro F; show (setAll l v (F.set x v)).length = _; rw [ih]; simp
theorem leftTo_len (ls : List (List Nat)) (N i : Nat) : (leftTo ls N i).length = N := by
  induction i with
  | zero => simp [leftTo]
  | succ i ih => show (setAll _ _ _).length = N; rw [setAll_len, ih]
theorem setAll_take {l : List Nat} {v : Int} {F : List Int} {j : Nat} (h : j < l.length) : setAll (l.take (j + 1)) v F = (setAll (l.take j) v F).set (l.getD j 0) v := by
  unfold setAll
  rw [List.take_add_one, List.foldl_append, List.getD_eq_getElem?_getD, List.getElem?_eq_getElem h]
  rfl
theorem nth_setAll (l : List Nat) (v : Int) (x : Nat) : ∀ F : List Int, x < F.length → nth (setAll l v F) x = if x ∈ l then v else nth F x := by
  induction l with
  | nil => intro F _; simp [setAll]
  | cons y l ih =>
    intro F hx
    show nth (setAll l v (F.set y v)) x = _
    rw [ih _ (by simpa using hx)]
    by_cases h1 : x ∈ l
    · rw [if_pos h1, if_pos (List.mem_cons_of_mem _ h1)]
    · rw [if_neg h1]
      by_cases h2 : y < F.length
      · rw [nth_set _ _ _ _ h2]
        by_cases h3 : y = x
        · rw [if_pos h3, if_pos (by rw [h3]; exact List.mem_cons_self)]
        · rw [if_neg h3, if_neg (by rw [List.mem_cons]; rintro (e | e); exact h3 e.symm; exact h1 e)]
      · rw [List.set_eq_of_length_le (by omega), if_neg (by rw [List.mem_cons]; rintro (e | e); omega; exact h1 e)]
theorem leftTo_at {ls : List (List Nat)} {N x j : Nat} (hx : x < N) (hj : x ∈ ls.getD j []) (hu : ∀ k, x ∈ ls.getD k [] → k = j) : ∀ i, j < i → nth (leftTo ls N i) x = (j : Int) := fun i => by
  induction i with
  | zero => intro h; omega
  | succ i ih =>
    intro h
    show nth (setAll (ls.getD i []) (i : Int) (leftTo ls N i)) x = _
    rw [nth_setAll _ _ _ _ (by rw [leftTo_len]; exact hx)]
    by_cases e : x ∈ ls.getD i []
    · rw [if_pos e, hu i e]
    · rw [if_neg e]
      refine ih ?_
      rcases Nat.lt_or_ge j i with g | g
      · exact g
      · have : j = i := by omega
        rw [this] at hj; exact absurd hj e
/-- The faces, each from its least half-edge. -/
theorem facesL_eq {M : List Int} {n : Nat} (hm : Mates M n) : facesL M n = ((List.range (4 * n)).filter fun h => leastB (fc M) (perOf (fc M) (4 * n)) h).map fun h => orb (fc M) h (perOf (fc M) (4 * n) h) := by
  unfold facesL
  rw [cycs_eq hm.inj hm.per _ (fun _ _ => rfl)]
  unfold clTo
  congr 1
theorem facesL_row {M : List Int} {n : Nat} (hm : Mates M n) {i : Nat} (hi : i < (facesL M n).length) : ∃ h, h < 4 * n ∧ lf M n h = h ∧ (facesL M n).getD i [] = orb (fc M) h (perOf (fc M) (4 * n) h) ∧ ((List.range (4 * n)).filter fun h => leastB (fc M) (perOf (fc M) (4 * n)) h)[i]? = some h := by
  have hl : i < ((List.range (4 * n)).filter fun h => leastB (fc M) (perOf (fc M) (4 * n)) h).length := by
    rw [facesL_eq hm, List.length_map] at hi; exact hi
  have hmem := List.getElem_mem hl
  rw [List.mem_filter, List.mem_range] at hmem
  refine ⟨_, hmem.1, (fl_least hm.inj hm.per hmem.1).1 hmem.2, ?_, List.getElem?_eq_getElem hl⟩
  rw [List.getD_eq_getElem?_getD, facesL_eq hm, List.getElem?_map, List.getElem?_eq_getElem hl]
  rfl
theorem facesL_ent {M : List Int} {n : Nat} (hm : Mates M n) {i j : Nat} (hi : i < (facesL M n).length) (hj : j < ((facesL M n).getD i []).length) : ((facesL M n).getD i []).getD j 0 < 4 * n := by
  obtain ⟨h, h1, h2, h3, _⟩ := facesL_row hm hi
  rw [h3] at hj ⊢
  rw [orb_length] at hj
  rw [orb_getD _ _ _ _ hj]
  exact iter_lt _ _ hm.inj.lt j h h1
theorem facesL_few {M : List Int} {n : Nat} (hm : Mates M n) : (facesL M n).length ≤ 4 * n := by
  rw [facesL_eq hm, List.length_map]
  have := List.length_filter_le (fun h => leastB (fc M) (perOf (fc M) (4 * n)) h) (List.range (4 * n))
  rwa [List.length_range] at this
theorem facesL_short {M : List Int} {n : Nat} (hm : Mates M n) {i : Nat} (hi : i < (facesL M n).length) : ((facesL M n).getD i []).length ≤ 4 * n := by
  obtain ⟨h, h1, _, h3, _⟩ := facesL_row hm hi
  rw [h3, orb_length]
  exact perOf_le _ _ _ (by omega)
/-- What left gives: equal numbers just on one face. -/
theorem left_iff {M : List Int} {n : Nat} (hm : Mates M n) {x y : Nat} (hx : x < 4 * n) (hy : y < 4 * n) : nth (leftTo (facesL M n) (4 * n) (facesL M n).length) x = nth (leftTo (facesL M n) (4 * n) (facesL M n).length) y ↔ OnOrb (fc M) x y := by
  have key : ∀ x, x < 4 * n → ∃ j, j < (facesL M n).length ∧ ((List.range (4 * n)).filter fun h => leastB (fc M) (perOf (fc M) (4 * n)) h)[j]? = some (lf M n x) ∧ nth (leftTo (facesL M n) (4 * n) (facesL M n).length) x = (j : Int) := fun x hx => by
    have hl := hm.face_lt hx
    have hmem : lf M n x ∈ (List.range (4 * n)).filter fun h => leastB (fc M) (perOf (fc M) (4 * n)) h := by
      rw [List.mem_filter, List.mem_range]
      exact ⟨hl, (fl_least hm.inj hm.per hl).2 (fl_idem hm.inj hm.per hx)⟩
    obtain ⟨j, hj, he⟩ := List.getElem_of_mem hmem
    have hjl : j < (facesL M n).length := by rw [facesL_eq hm, List.length_map]; exact hj
    have hin : ∀ k, k < (facesL M n).length → (x ∈ (facesL M n).getD k [] ↔ ((List.range (4 * n)).filter fun h => leastB (fc M) (perOf (fc M) (4 * n)) h)[k]? = some (lf M n x)) := fun k hk => by
      obtain ⟨h, h1, h2, h3, h4⟩ := facesL_row hm hk
      rw [h3, h4, mem_orb (hm.per h h1), Option.some.injEq]
      constructor
      · intro ho
        have := fl_eq hm.inj hm.per h1 ho
        have h2 : fl (fc M) (perOf (fc M) (4 * n)) h = h := h2
        show h = fl (fc M) (perOf (fc M) (4 * n)) x
        rw [this, h2]
      · intro e
        have := (fl_spec hm.per hx).1
        rw [e]
        exact onOrb_symm hm.inj hx this
    refine ⟨j, hjl, by rw [List.getElem?_eq_getElem hj, he], leftTo_at hx ((hin j hjl).2 (by rw [List.getElem?_eq_getElem hj, he])) (fun k hk => ?_) _ hjl⟩
    have hkl : k < (facesL M n).length := by
      rcases Nat.lt_or_ge k (facesL M n).length with g | g
      · exact g
      · rw [List.getD_eq_getElem?_getD, List.getElem?_eq_none g] at hk; cases hk
    have h1 := (hin k hkl).1 hk
    have hnd : ((List.range (4 * n)).filter fun h => leastB (fc M) (perOf (fc M) (4 * n)) h).Nodup := List.nodup_range.sublist List.filter_sublist
    exact (List.getElem?_inj (List.getElem?_eq_some_iff.1 h1).1 hnd).1 (h1.trans (by rw [List.getElem?_eq_getElem hj, he]))
  obtain ⟨j, j1, j2, j3⟩ := key x hx
  obtain ⟨k, k1, k2, k3⟩ := key y hy
  rw [j3, k3]
  constructor
  · intro e
    have e : j = k := by omega
    subst e
    rw [j2] at k2
    have e2 : lf M n x = lf M n y := Option.some.inj k2
    have a1 := (fl_spec hm.per hx).1
    have a2 := (fl_spec hm.per hy).1
    have e3 : fl (fc M) (perOf (fc M) (4 * n)) x = fl (fc M) (perOf (fc M) (4 * n)) y := e2
    rw [e3] at a1
    exact onOrb_trans a1 (onOrb_symm hm.inj hy a2)
  · intro ho
    have e2 : lf M n y = lf M n x := fl_eq hm.inj hm.per hx ho
    rw [e2, ← j2] at k2
    have hnd : ((List.range (4 * n)).filter fun h => leastB (fc M) (perOf (fc M) (4 * n)) h).Nodup := List.nodup_range.sublist List.filter_sublist
    have hkl : k < ((List.range (4 * n)).filter fun h => leastB (fc M) (perOf (fc M) (4 * n)) h).length := by rw [facesL_eq hm, List.length_map] at k1; exact k1
    rw [(List.getElem?_inj hkl hnd).1 k2]
def leftL (M : List Int) (n : Nat) : List Int := leftTo (facesL M n) (4 * n) (facesL M n).length
theorem setAll_all (l : List Nat) (v : Int) (F : List Int) : setAll (l.take l.length) v F = setAll l v F := by rw [List.take_length]
set_option maxRecDepth 100000 in
set_option maxHeartbeats 4000000 in
theorem left_any (S M : List Int) (L : Int) (aS aM : Option Addr) (cS cM : Nat) (w : World) (hv : vldB S M L = true) (hS : IntsAt w aS S) (hM : IntsAt w aM M) :
    Calls Tryz.prog 23 #[.agg #[.slice aS S.length cS, .slice aM M.length cM, .int .i64 L]] w fun e w' => ∃ a c, e = .returned (.slice a (4 * S.length) c) ∧ Own w' w.heap.size 3 a c (ints (leftL M S.length)) ∧ Below w.heap.size w w' := by
  have hs := vldB_shape hv
  have hm := hs.mates2
  have hfw := hs.few
  have HF : Hid (∀ W', Below w.heap.size w W' → Calls Tryz.prog 41 #[.agg #[.slice aS S.length cS, .slice aM M.length cM, .int .i64 L]] W' fun e w' => ∃ a c, e = .returned (.slice a (facesL M S.length).length c) ∧ Below W'.heap.size W' w' ∧ OwnRows w' W'.heap.size a c ((facesL M S.length).map nats)) := Lib.hid fun W' h => faces_own S M L aS aM cS cM W' hv (hS.later h) (hM.later h)
  have HE : Hid (∀ i j, i < (facesL M S.length).length → j < ((facesL M S.length).getD i []).length → ((facesL M S.length).getD i []).getD j 0 < M.length) := Lib.hid fun i j hi hj => by rw [hs.len]; exact facesL_ent hm hi hj
  have HSr : Hid (∀ i, i < (facesL M S.length).length → ((facesL M S.length).getD i []).length ≤ 1000) := Lib.hid fun i hi => by have := facesL_short hm hi; omega
  have hfl := facesL_few hm
  have hml : M.length ≤ 256 := by rw [hs.len]; omega
  have HL : Hid (leftL M S.length = leftTo (facesL M S.length) M.length (facesL M S.length).length) := Lib.hid (by rw [hs.len]; rfl)
  rw [HL.out, ← hs.len]
  have hmk := run_mk1 (T := 22) (z := .int .i64 0) (bytes := 8) Tryz.underlying22 Tryz.info3 rfl M.length M.length (Nat.le_refl _) (by omega) (by omega)
  have H0 := Lib.hid ((HH.start w).alloc #[.slice aS S.length cS, .slice aM M.length cM, .int .i64 L] 24 rfl rfl)
  have c0 := H0.out.cell (k := 0) (i := 1) rfl rfl
  clear hs hm hv hS hM HL
  generalize facesL M S.length = ls at *
  generalize S.length = n at *
  generalize M.length = N at *
  go_enter Tryz.func23, Tryz.ntmps23
  have H1 := Lib.hid (H0.out.alloc (Array.replicate N (.int .i64 0)) 3 rfl (vs := ints (leftTo ls N 0)) (by rw [replicate_ints]; rfl))
  have c1 := H1.out.cell (k := 0) (i := 0) rfl rfl
  have c2 := H1.out.cell (k := 0) (i := 1) rfl rfl
  have c3 := H1.out.cell (k := 0) (i := 2) rfl rfl
  go_wp2_with fail
  rw [show (w.alloc (Obj.cells #[Value.slice aS n cS, Value.slice aM N cM, Value.int IntKind.i64 L] 24)).heap.size = w.heap.size + 1 by simp] at H1
  obtain ⟨v1, hv1⟩ : ∃ v, v = (w.alloc (Obj.cells #[Value.slice aS n cS, Value.slice aM N cM, Value.int IntKind.i64 L] 24)).alloc (Obj.cells (Array.replicate N (Value.int IntKind.i64 0)) 3) := ⟨_, rfl⟩
  rw [← hv1]
  rw [← hv1] at H1
  have hob : w.heap.size + 1 < v1.heap.size := H1.out.lt (List.mem_append_right _ List.mem_cons_self)
  clear hv1 c0 c1 c2 c3 H0 hmk
  refine (HF.out v1 H1.out.below).mono ?_
  rintro e w2 ⟨A, E, rfl, hb, hr⟩
  have H2 := Lib.hid (H1.out.call hb)
  have HR := Lib.hid hr
  generalize v1.heap.size = q at *
  clear hb hr H1 HF
  go_wp2_with fail
  go_loopg [15] ls.length (fun g v wr => ∃ i : Nat, i ≤ ls.length ∧ g = ls.length - i ∧ v = .int .i64 i ∧ OwnRows wr q A E (ls.map nats) ∧ HH w wr [(w.heap.size, rowO 24 [.slice aS n cS, .slice aM N cM, .int .i64 L]), (w.heap.size + 1, rowO 3 (ints (leftTo ls N i)))] [])
  case atStart => exact ⟨0, Nat.zero_le _, rfl, rfl, HR.out, H2.out⟩
  case round =>
    obtain ⟨i, hi, rfl, rfl, hr, hh⟩ := hrel
    replace HR := Lib.hid hr
    have Hh := Lib.hid hh
    clear hr hh H2
    by_cases hil : i < ls.length
    · obtain ⟨b1, o1, rfl, _, _, hrow⟩ := HR.out.open (by rw [List.length_map]; omega)
      obtain ⟨a', c', hci, hro⟩ := hrow i (nats (ls.getD i [])) (by rw [List.getElem?_map, getD_some (d := []) hil]; rfl)
      rw [nats_length] at hci
      have Hro := Lib.hid hro
      have hli := HSr.out i hil
      have HEi : Hid (∀ j, j < (ls.getD i []).length → (ls.getD i []).getD j 0 < N) := Lib.hid fun j hj => HE.out i j hil hj
      have HN : Hid (leftTo ls N (i + 1) = setAll (ls.getD i []) (i : Int) (leftTo ls N i)) := Lib.hid rfl
      have Hlen : Hid ((leftTo ls N i).length = N) := Lib.hid (leftTo_len ls N i)
      clear hrow hro
      generalize ls.getD i [] = row at *
      generalize leftTo ls N i = F at *
      go_wp2_with fail
      clear hci
      go_loopg [22] row.length (fun g v wx => ∃ j : Nat, j ≤ row.length ∧ g = row.length - j ∧ v = .int .i64 j ∧ OwnRows wx q (some ⟨b1, o1, none⟩) E (ls.map nats) ∧ Own wx q 3 a' c' (ints (nats row)) ∧ HH w wx [(w.heap.size, rowO 24 [.slice aS n cS, .slice aM N cM, .int .i64 L]), (w.heap.size + 1, rowO 3 (ints (setAll (row.take j) (i : Int) F)))] [])
      case atStart => exact ⟨0, Nat.zero_le _, rfl, rfl, HR.out, Hro.out, Hh.out⟩
      case round =>
        obtain ⟨j, hj, rfl, rfl, hr, hro, hh⟩ := hrel
        replace HR := Lib.hid hr
        replace Hro := Lib.hid hro
        replace Hh := Lib.hid hh
        clear hr hro hh
        by_cases hjl : j < row.length
        · obtain ⟨b2, o2, rfl, _, hcR⟩ := Hro.out.ints.open (by rw [nats_length]; omega)
          have hcx := hcR j (by rw [nats_length]; exact hjl)
          rw [nth_nats _ _ hjl] at hcx
          clear hcR
          have hvn := HEi.out j hjl
          have HN2 := Lib.hid (Hh.out.setInt (k := 1) rfl (row.getD j 0) (i : Int))
          rw [← setAll_take hjl] at HN2
          generalize row.getD j 0 = v at *
          have e1 : decide ((v : Int) < 0) = false := decide_eq_false (by omega)
          have e2 : decide ((N : Int) ≤ (v : Int)) = false := decide_eq_false (by omega)
          have e3 : decide (N ≤ v) = false := decide_eq_false (by omega)
          have hcv := Hh.out.int (k := 1) rfl v (by rw [setAll_len, Hlen.out]; exact hvn)
          have hfv := Hh.out.frozen (k := 1) rfl v
          have hbk : ∀ k, q ≤ k → (wr.setCell ⟨w.heap.size + 1, v, none⟩ (.int .i64 (i : Int))).heap[k]? = wr.heap[k]? := fun k hk => Below.heap_setCell _ ⟨w.heap.size + 1, v, none⟩ _ k (fun e => by have e : k = w.heap.size + 1 := e; omega)
          have HR2 := Lib.hid (HR.out.keptB hbk)
          have Hro2 := Lib.hid (Hro.out.kept fun x hx => hbk _ (Hro.out.lt hx).1)
          clear hbk
          go_wp2_with fail
          go_roundg (row.length - (j + 1))
          case measure => omega
          case rel => exact ⟨j + 1, by omega, rfl, by go_num, HR2.out, Hro2.out, HN2.out⟩
        · obtain rfl : j = row.length := by omega
          rw [setAll_all, ← HN.out] at Hh
          go_wp2_with fail
          go_roundg (ls.length - (i + 1))
          case measure => omega
          case rel => exact ⟨i + 1, by omega, rfl, by go_num, HR.out, Hh.out⟩
    · obtain rfl : i = ls.length := by omega
      have Hlen : Hid ((leftTo ls N ls.length).length = N) := Lib.hid (leftTo_len ls N _)
      go_wp2_with fail
      go_ret
      refine ⟨_, _, rfl, ?_, Hh.out.below⟩
      have h := (Hh.out.row (k := 1) rfl).own (B := w.heap.size) (by omega)
      rw [ints_length, Hlen.out] at h
      exact h
end Go.Proofs.YtmjoijfafachhaaGreatDoor


namespace Go.Proofs.YtmjoijfafachhaaGreatDoor
open Go Go.RowKit
set_option maxHeartbeats 1000000 in
theorem coutgoing_any (S M : List Int) (L : Int) (aS aM : Option Addr) (cS cM : Nat) (h : Nat) (w : World) (hh : h < 4 * S.length) (hb : S.length ≤ 1000000) (hS : IntsAt w aS S) :
    Calls Tryz.prog 24 #[.agg #[.slice aS S.length cS, .slice aM M.length cM, .int .i64 L], .int .i64 (h : Int)] w fun e w' => e = .returned (.bool (outB S h)) ∧ Below w.heap.size w w' := by
  obtain ⟨b, off, rfl, hbl, hc⟩ := hS.open (by omega)
  have hc1 := hc (h / 4) (by omega)
  have hlt : (h : Int) / 4 < (S.length : Int) := by omega
  clear hc hS
  have hB : ∀ o, Below w.heap.size w (w.alloc o) := fun o => (Below.refl _ _).alloc (Nat.le_refl _) o
  rcases (show h % 4 = 0 ∨ h % 4 = 1 ∨ h % 4 = 2 ∨ h % 4 = 3 by omega) with e | e | e | e
  · have hv := outB_0 S h e
    have e' : ((h : Int) % 4) = 0 := by omega
    clear e
    have t1 : (((h : Int) % 4) == 1) = false := by rw [e']; rfl
    have t2 : (((h : Int) % 4) == 2) = false := by rw [e']; rfl
    have t3 : (((h : Int) % 4) == 3) = false := by rw [e']; rfl
    clear e'
    go_enter Tryz.func24, Tryz.ntmps24
    go_wp2
    go_ret
    exact ⟨ret_bool hv.symm, hB _⟩
  · have hv := Lib.hid (outB_1 S h e)
    have e' : ((h : Int) % 4) = 1 := by omega
    clear e
    have t1 : (((h : Int) % 4) == 1) = true := by rw [e']; rfl
    have t2 : (((h : Int) % 4) == 2) = false := by rw [e']; rfl
    have t3 : (((h : Int) % 4) == 3) = false := by rw [e']; rfl
    clear e'
    cases hs : (nth S (h / 4) == 1)
    · have hr := hv.out.trans hs
      go_enter Tryz.func24, Tryz.ntmps24
      go_wp2
      go_ret
      exact ⟨ret_bool hr.symm, hB _⟩
    · have hr := hv.out.trans hs
      go_enter Tryz.func24, Tryz.ntmps24
      go_wp2
      go_ret
      exact ⟨ret_bool hr.symm, hB _⟩
  · have hv := outB_2 S h e
    have e' : ((h : Int) % 4) = 2 := by omega
    clear e
    have t2 : (((h : Int) % 4) == 2) = true := by rw [e']; rfl
    clear e'
    go_enter Tryz.func24, Tryz.ntmps24
    go_wp2
    go_ret
    exact ⟨ret_bool hv.symm, hB _⟩
  · have hv := Lib.hid (outB_3 S h e)
    have e' : ((h : Int) % 4) = 3 := by omega
    clear e
    have t1 : (((h : Int) % 4) == 1) = false := by rw [e']; rfl
    have t2 : (((h : Int) % 4) == 2) = false := by rw [e']; rfl
    have t3 : (((h : Int) % 4) == 3) = true := by rw [e']; rfl
    clear e'
    go_enter Tryz.func24, Tryz.ntmps24
    go_wp2
    go_ret
    exact ⟨ret_bool hv.out.symm, hB _⟩
/-- An outgoing half-edge, or a loop. -/
def placeB (S : List Int) (L x : Int) : Bool := if x = -1 then decide (0 < L) else decide (0 ≤ x) && decide (x < 4 * (S.length : Int)) && outB S x.toNat
theorem placeB_loop (S : List Int) (L : Int) : placeB S L (-1) = decide (0 < L) := if_pos rfl
theorem placeB_out {S : List Int} {L x : Int} (h : x ≠ -1) (g : ¬ (0 ≤ x ∧ x < 4 * (S.length : Int))) : placeB S L x = false := by
  unfold placeB; rw [if_neg h]
  by_cases a : 0 ≤ x
  · rw [decide_eq_false (fun b => g ⟨a, b⟩)]; simp
  · rw [decide_eq_false a]; simp
theorem placeB_at {S : List Int} {L : Int} {h : Nat} (hh : h < 4 * S.length) : placeB S L (h : Int) = outB S h := by
  unfold placeB
  rw [if_neg (by omega), decide_eq_true (by omega), decide_eq_true (by omega)]; simp
set_option maxRecDepth 100000 in
set_option maxHeartbeats 1000000 in
theorem end_any (S M : List Int) (L : Int) (aS aM : Option Addr) (cS cM : Nat) (x : Int) (w : World) (hb : S.length ≤ 1000000) (hl : M.length = 4 * S.length) (hS : IntsAt w aS S) :
    Calls Tryz.prog 20 #[.agg #[.slice aS S.length cS, .slice aM M.length cM, .int .i64 L], .int .i64 x] w fun e w' => e = .returned (.bool (placeB S L x)) ∧ Below w.heap.size w w' := by
  have H0 := Lib.hid ((HH.start w).alloc #[.slice aS S.length cS, .slice aM M.length cM, .int .i64 L] 24 rfl rfl)
  have c0 := H0.out.cell (k := 0) (i := 0) rfl rfl
  have c1 := H0.out.cell (k := 0) (i := 1) rfl rfl
  have c2 := H0.out.cell (k := 0) (i := 2) rfl rfl
  by_cases e1 : x = -1
  · subst e1
    rw [placeB_loop]
    clear hl
    go_enter Tryz.func20, Tryz.ntmps20
    go_wp2_with fail
    go_ret
    exact ⟨rfl, H0.out.below⟩
  · have t1 : (x == -1) = false := by simpa using e1
    by_cases g : 0 ≤ x ∧ x < 4 * (S.length : Int)
    · obtain ⟨h, rfl⟩ : ∃ h : Nat, x = (h : Int) := ⟨x.toNat, by omega⟩
      have hh : h < 4 * S.length := by omega
      have HC := Lib.hid (coutgoing_any S M L aS aM cS cM h (w.alloc (.cells #[.slice aS S.length cS, .slice aM M.length cM, .int .i64 L] 24)) hh hb (hS.later H0.out.below))
      rw [placeB_at hh]
      have d2 : (h : Int) < (M.length : Int) := by omega
      have d3 : decide ((h : Int) < (M.length : Int)) = true := decide_eq_true d2
      have d1 : decide ((h : Int) ≥ 0) = true := decide_eq_true (by omega)
      generalize outB S h = R at *
      clear hS g hh hl e1
      generalize M.length = m at *
      generalize S.length = n at *
      go_enter Tryz.func20, Tryz.ntmps20
      go_wp2_with fail
      refine HC.out.mono ?_
      rintro e w1 ⟨rfl, hb⟩
      have H1 := Lib.hid (H0.out.call hb)
      clear hb
      go_wp2_with fail
      go_ret
      exact ⟨rfl, H1.out.below⟩
    · rw [placeB_out e1 g]
      by_cases h0 : 0 ≤ x
      · have d3 : decide (x < (M.length : Int)) = false := decide_eq_false (by omega)
        clear hS g hl e1
        generalize M.length = m at *
        go_enter Tryz.func20, Tryz.ntmps20
        go_wp2_with fail
        go_ret
        exact ⟨rfl, H0.out.below⟩
      · have d3 : decide (0 ≤ x) = false := decide_eq_false h0
        clear hS g hl e1
        go_enter Tryz.func20, Tryz.ntmps20
        go_wp2_with fail
        go_ret
        exact ⟨rfl, H0.out.below⟩
set_option maxRecDepth 100000 in
set_option maxHeartbeats 1000000 in
theorem cross_any (M : List Int) (A : Option Addr) (c B x y : Nat) (w : World) (hx : x < M.length) (hy : y < M.length) (hM : M.length ≤ 1000000) (hp0 : 0 ≤ nth M x ∧ nth M x < M.length) (hq0 : 0 ≤ nth M y ∧ nth M y < M.length) (ho : Own w B 3 A c (ints M)) :
    Calls Tryz.prog 22 #[.slice A M.length c, .int .i64 (x : Int), .int .i64 (y : Int)] w fun e w' => e = .returned (.tuple #[]) ∧ Own w' B 3 A c (ints (crossL M x y)) ∧ Turned w w' A := by
  obtain ⟨p, hp⟩ : ∃ p : Nat, nth M x = (p : Int) := ⟨(nth M x).toNat, by omega⟩
  obtain ⟨q, hq⟩ : ∃ q : Nat, nth M y = (q : Int) := ⟨(nth M y).toNat, by omega⟩
  have hpl : p < M.length := by omega
  have hql : q < M.length := by omega
  obtain ⟨b, o, rfl, hB, hbl, hc, hf⟩ := ho.open (by rw [ints_length]; omega)
  have c1 := hc x _ (ints_get M x hx)
  have c2 := hc y _ (ints_get M y hy)
  rw [hp] at c1
  rw [hq] at c2
  have HO := Lib.hid ho
  have HE : Hid ((((M.set x (q : Int)).set q (x : Int)).set y (p : Int)).set p (y : Int) = crossL M x y) := Lib.hid (by
    unfold crossL
    rw [show mt M y = q by unfold mt; rw [hq]; exact Int.toNat_natCast q, show mt M x = p by unfold mt; rw [hp]; exact Int.toNat_natCast p, hp, hq])
  have HX := Lib.hid (show x < M.length ∧ y < M.length ∧ p < M.length ∧ q < M.length from ⟨hx, hy, hpl, hql⟩)
  have HL : Hid (∀ v : World, Own v B 3 (some ⟨b, o, none⟩) c (ints M) → v.frozen? ⟨b, o + x, none⟩ = false ∧ (v.setCell ⟨b, o + x, none⟩ (.int .i64 (q : Int))).frozen? ⟨b, o + q, none⟩ = false ∧
      ((v.setCell ⟨b, o + x, none⟩ (.int .i64 (q : Int))).setCell ⟨b, o + q, none⟩ (.int .i64 (x : Int))).frozen? ⟨b, o + y, none⟩ = false ∧
      (((v.setCell ⟨b, o + x, none⟩ (.int .i64 (q : Int))).setCell ⟨b, o + q, none⟩ (.int .i64 (x : Int))).setCell ⟨b, o + y, none⟩ (.int .i64 (p : Int))).frozen? ⟨b, o + p, none⟩ = false ∧
      Own ((((v.setCell ⟨b, o + x, none⟩ (.int .i64 (q : Int))).setCell ⟨b, o + q, none⟩ (.int .i64 (x : Int))).setCell ⟨b, o + y, none⟩ (.int .i64 (p : Int))).setCell ⟨b, o + p, none⟩ (.int .i64 (y : Int))) B 3 (some ⟨b, o, none⟩) c (ints (crossL M x y)) ∧ (∃ u, v.cell? ⟨b, o + x, none⟩ = some u) ∧ (∃ u, (v.setCell ⟨b, o + x, none⟩ (.int .i64 (q : Int))).cell? ⟨b, o + q, none⟩ = some u) ∧ (∃ u, ((v.setCell ⟨b, o + x, none⟩ (.int .i64 (q : Int))).setCell ⟨b, o + q, none⟩ (.int .i64 (x : Int))).cell? ⟨b, o + y, none⟩ = some u) ∧ (∃ u, (((v.setCell ⟨b, o + x, none⟩ (.int .i64 (q : Int))).setCell ⟨b, o + q, none⟩ (.int .i64 (x : Int))).setCell ⟨b, o + y, none⟩ (.int .i64 (p : Int))).cell? ⟨b, o + p, none⟩ = some u)) := Lib.hid fun v hv => by
    have cl : ∀ (W : World) (N : List Int) (i : Nat), i < N.length → Own W B 3 (some ⟨b, o, none⟩) c (ints N) → ∃ u, W.cell? ⟨b, o + i, none⟩ = some u := fun W N i h0 h => by
      obtain ⟨b', o', he, _, _, hh, _⟩ := h.open (by rw [ints_length]; omega)
      cases he; exact ⟨_, hh i _ (ints_get N i h0)⟩
    have fr : ∀ (W : World) (N : List Int), 0 < N.length → Own W B 3 (some ⟨b, o, none⟩) c (ints N) → ∀ i, W.frozen? ⟨b, i, none⟩ = false := fun W N h0 h i => by
      obtain ⟨b', o', he, _, _, _, hh⟩ := h.open (by rw [ints_length]; exact h0)
      cases he; exact hh i
    have o1 := hv.set x (by rw [ints_length]; exact hx) (.int .i64 (q : Int))
    rw [ints_set] at o1
    have o2 := o1.set q (by rw [ints_length, List.length_set]; exact hql) (.int .i64 (x : Int))
    rw [ints_set] at o2
    have o3 := o2.set y (by rw [ints_length, List.length_set, List.length_set]; exact hy) (.int .i64 (p : Int))
    rw [ints_set] at o3
    have o4 := o3.set p (by rw [ints_length, List.length_set, List.length_set, List.length_set]; exact hpl) (.int .i64 (y : Int))
    rw [ints_set, HE.out] at o4
    exact ⟨fr _ _ (by omega) hv _, fr _ _ (by rw [List.length_set]; omega) o1 _, fr _ _ (by rw [List.length_set, List.length_set]; omega) o2 _, fr _ _ (by rw [List.length_set, List.length_set, List.length_set]; omega) o3 _, o4, cl _ _ _ hx hv, cl _ _ _ (by rw [List.length_set]; exact hql) o1, cl _ _ _ (by rw [List.length_set, List.length_set]; exact hy) o2, cl _ _ _ (by rw [List.length_set, List.length_set, List.length_set]; exact hpl) o3⟩
  clear ho hc hf hp hq hp0 hq0 HE HX
  generalize M.length = m at *
  generalize crossL M x y = R at *
  go_enter Tryz.func22, Tryz.ntmps22
  go_wp2_with fail
  go_region
  all_goals
    have hv := HO.out.kept (w' := w.drew) (fun _ _ => rfl)
    have ht : Turned w w.drew (some ⟨b, o, none⟩) := ⟨rfl, rfl, rfl, Nat.le_refl _, fun _ _ _ => rfl⟩
    obtain ⟨v, hv0⟩ : ∃ v, v = w.drew := ⟨_, rfl⟩
    rw [← hv0]
    rw [← hv0] at hv ht
    clear hv0 HO c1 c2
    obtain ⟨f1, f2, f3, f4, o4, k1, k2, k3, k4⟩ := HL.out _ hv
    have HO4 := Lib.hid o4
    have HT : Hid (Turned w ((((v.setCell ⟨b, o + x, none⟩ (.int .i64 (q : Int))).setCell ⟨b, o + q, none⟩ (.int .i64 (x : Int))).setCell ⟨b, o + y, none⟩ (.int .i64 (p : Int))).setCell ⟨b, o + p, none⟩ (.int .i64 (y : Int))) (some ⟨b, o, none⟩)) := Lib.hid ⟨ht.os, ht.tape, ht.output, by simpa using ht.size, fun k hk hne => by
      have hb : b ≠ k := hne _ rfl
      rw [Below.heap_setCell _ _ _ k (fun e => hb e.symm), Below.heap_setCell _ _ _ k (fun e => hb e.symm), Below.heap_setCell _ _ _ k (fun e => hb e.symm), Below.heap_setCell _ _ _ k (fun e => hb e.symm)]
      exact ht.block k hk hne⟩
    obtain ⟨u1, k1⟩ := k1
    obtain ⟨u2, k2⟩ := k2
    obtain ⟨u3, k3⟩ := k3
    obtain ⟨u4, k4⟩ := k4
    clear o4 hv ht HL
    go_wp2_with fail
    refine bodyPost_end (results_none rfl _ _ _) rfl ?_
    exact ⟨rfl, HO4.out, HT.out⟩
end Go.Proofs.YtmjoijfafachhaaGreatDoor


