/- Plain: the number of symmetries that the pieces tell. canon.Symmetries: the number of symmetries, from the pieces. The reference: Graph, the parts as lists; Part, a part of a diagram by itself. The examples of the chapter, walked: Trefoil, Kink, awake of law05. -/
import Derived.WalkKit
import Derived.WalkSpells
import Derived.WalkLawsBesides
import Derived.Deep.AppendSrc
import Derived.Deep.LoopGhost
import Derived.Deep.QuietTactic
import Derived.Deep.RegionWith
import Derived.Deep.DeepMust
import Derived.Deep.DeepFit
import Derived.BigQuiet
import Derived.Lib.Hide
import Derived.Outline
import Derived.Test.YtmhhjchnjaefhaaDoorProg
import Derived.Deep.Matrix
import Derived.Deep.DeepCutAuto
import Derived.Deep.RegionLaw
import Derived.Deep.RegionHeld3
import Derived.Lib.SliceRun
import Derived.Shelf.Strings.Builder1
import Derived.Shelf.Small.Wraps
import Derived.Shelf.Strings.BuilderF
import Derived.Shelf.Strings.BuilderK
import Derived.Shelf.Strconv.Itoa0
import Derived.Shelf.Strconv.Itoa1
import Derived.Shelf.LaysM
import Derived.Shelf.Strconv.Itoa2
import Derived.Shelf.Strconv.Itoa3
import Derived.Shelf.Slices.Equal
import Derived.Ground.Names2Prog
import Derived.Shelf.Slices.Clone
import Derived.Shelf.Slices.SearchI
import Derived.Shelf.Slices.Empties2
import Derived.Ground.SlgnProg
import Derived.Shelf.SlicesE.Clone
import Derived.Sort.OwnSortedInts
import Derived.Shelf.Small.Bits
import Derived.Shelf.Sort.Plain
import Derived.Shelf.Slices.Turned
import Derived.Shelf.Slices.CompactI
import Derived.Shelf.Slices.Cells
import Derived.Shelf.Slices.In.SortNone
import Derived.Lib.AppendZeros
import Derived.Deep.RegionHeld
import Derived.Lib.Builder
import Derived.Lib.AppendStr
import Derived.Lib.Walk
import Derived.Laws.Externs
import Derived.Lib.AppendIntMem
import Derived.Test.YtmhhjchnjaefhaaDoorFbAa
import Derived.Test.YtmhhjchnjaefhaaDoorFbAb
import Derived.Test.YtmhhjchnjaefhaaDoorFbAc
import Derived.Test.YtmhhjchnjaefhaaDoorFbAd
import Derived.Test.YtmhhjchnjaefhaaDoorFbAe
import Derived.Test.YtmhhjchnjaefhaaDoorFbAf
import Derived.Test.YtmhhjchnjaefhaaDoorFbAg
import Derived.Test.YtmhhjchnjaefhaaDoorFbAh
import Derived.Test.YtmhhjchnjaefhaaDoorFbAi
import Derived.Test.YtmhhjchnjaefhaaDoorFbAj
import Derived.Test.YtmhhjchnjaefhaaDoorFbAl
import Derived.Test.YtmhhjchnjaefhaaDoorFbAm
import Derived.Test.YtmhhjchnjaefhaaDoorFbAn
import Derived.Test.YtmhhjchnjaefhaaDoorFbAk
import Derived.Test.YtmhhjchnjaefhaaDoorFbAo
namespace Go.Proofs.YtmhhjchnjaefhaaDoor
open Go Go.RowKit
def capS : Int := 1099511627776
/-- The product and the number of like pieces, after i pieces. -/
def symT (ys : List Dgm) : Nat → Int × Int
  | 0 => (1, 0)
  | i + 1 => (min ((symT ys i).1 * (ys.getD i ([], [], 0)).2.2 * (if 0 < i ∧ (ys.getD i ([], [], 0)).1 = (ys.getD (i - 1) ([], [], 0)).1 then (symT ys i).2 + 1 else 1)) capS, if 0 < i ∧ (ys.getD i ([], [], 0)).1 = (ys.getD (i - 1) ([], [], 0)).1 then (symT ys i).2 + 1 else 1)
/-- How many codes up to place i are like it. -/
def alk (cs : List (List Int)) : Nat → Int
  | 0 => 1
  | i + 1 => if cs.getD (i + 1) [] = cs.getD i [] then alk cs i + 1 else 1
def aprod (cs : List (List Int)) : Nat → Int
  | 0 => 1
  | i + 1 => aprod cs i * alk cs i
def prodI : List Int → Int
  | [] => 1
  | x :: l => x * prodI l
theorem prodI_append (a b : List Int) : prodI (a ++ b) = prodI a * prodI b := by
  induction a with
  | nil => simp [prodI]
  | cons x a ih => rw [List.cons_append, prodI, prodI, ih, Int.mul_assoc]
theorem prodI_perm {a b : List Int} (h : a.Perm b) : prodI a = prodI b := by
  induction h with
  | nil => rfl
  | cons x _ ih => rw [prodI, prodI, ih]
  | swap x y l => rw [prodI, prodI, prodI, prodI, ← Int.mul_assoc, ← Int.mul_assoc, Int.mul_comm y x]
  | trans _ _ h1 h2 => rw [h1, h2]
theorem prodI_pos {l : List Int} (h : ∀ x, x ∈ l → 1 ≤ x) : 1 ≤ prodI l := by
  induction l with
  | nil => simp [prodI]
  | cons x l ih =>
    have h1 := h x List.mem_cons_self
    have h2 := ih fun y hy => h y (List.mem_cons_of_mem _ hy)
    have := Int.mul_le_mul h1 h2 (by decide) (by omega)
    rw [prodI]; omega
/-- The number of symmetries, at most 2^40. -/
noncomputable def symV (S M : List Int) (n : Nat) : Int := min (prodI ((pinf S M n).map Prod.snd) * aprod (codesL S M n) (codesL S M n).length) capS
theorem symV_perm {S M S' M' : List Int} {n n' : Nat} (h : (pinf S' M' n').Perm (pinf S M n)) : symV S' M' n' = symV S M n := by
  unfold symV
  rw [codes_perm h, prodI_perm (h.map Prod.snd)]
theorem alk_pos (cs : List (List Int)) : ∀ i, 1 ≤ alk cs i
  | 0 => Int.le_refl _
  | i + 1 => by
    have := alk_pos cs i
    rw [alk]; split <;> omega
theorem alk_le (cs : List (List Int)) : ∀ i, alk cs i ≤ (i : Int) + 1
  | 0 => by show (1 : Int) ≤ ((0 : Nat) : Int) + 1; omega
  | i + 1 => by
    have := alk_le cs i
    rw [alk]; split <;> omega
theorem aprod_pos (cs : List (List Int)) : ∀ i, 1 ≤ aprod cs i
  | 0 => Int.le_refl _
  | i + 1 => by
    have := Int.mul_le_mul (aprod_pos cs i) (alk_pos cs i) (by decide) (by have := aprod_pos cs i; omega)
    rw [aprod]; omega
theorem min_mul {a b c : Int} (ha : 1 ≤ a) (hb : 1 ≤ b) (hc : 0 ≤ c) : min (min a c * b) c = min (a * b) c := by
  rcases Int.le_total a c with h | h
  · rw [Int.min_eq_left h]
  · rw [Int.min_eq_right h]
    have h1 : c ≤ c * b := by
      have := Int.mul_le_mul_of_nonneg_left hb hc
      omega
    have h2 : c ≤ a * b := by
      have := Int.mul_le_mul_of_nonneg_left hb (show 0 ≤ a by omega)
      omega
    rw [Int.min_eq_right h1, Int.min_eq_right h2]
theorem symT_is {ys : List Dgm} (hr : ∀ p, p ∈ ys → 1 ≤ p.2.2) : ∀ i, i ≤ ys.length → (symT ys i).1 = min (prodI ((ys.take i).map fun p => p.2.2) * aprod (ys.map fun p => p.1) i) capS ∧ (0 < i → (symT ys i).2 = alk (ys.map fun p => p.1) (i - 1)) := fun i => by
  induction i with
  | zero => intro _; exact ⟨by show (1 : Int) = _; rw [List.take_zero]; rfl, fun h => absurd h (Nat.lt_irrefl 0)⟩
  | succ i ih =>
    intro hi
    obtain ⟨h1, h2⟩ := ih (by omega)
    have hil : i < ys.length := by omega
    have hm : ys.getD i ([], [], 0) ∈ ys := by rw [List.getD_eq_getElem?_getD, List.getElem?_eq_getElem hil]; exact List.getElem_mem hil
    have ge : ∀ j, j < ys.length → (ys.map fun p => p.1).getD j [] = (ys.getD j ([], [], 0)).1 := fun j hj => by
      rw [List.getD_eq_getElem?_getD, List.getD_eq_getElem?_getD, List.getElem?_map, List.getElem?_eq_getElem hj]; rfl
    have ha : (if 0 < i ∧ (ys.getD i ([], [], 0)).1 = (ys.getD (i - 1) ([], [], 0)).1 then (symT ys i).2 + 1 else 1) = alk (ys.map fun p => p.1) i := by
      cases i with
      | zero => simp [alk]
      | succ j =>
        rw [alk, ge _ hil, ge j (by omega), h2 (by omega)]
        simp
    refine ⟨?_, fun _ => ?_⟩
    · rw [symT]
      show min ((symT ys i).1 * (ys.getD i ([], [], 0)).2.2 * (if _ then _ else _)) capS = _
      rw [ha, h1, List.take_add_one, getD_some (d := ([], [], 0)) hil, List.map_append, prodI_append, aprod]
      have p1 : 1 ≤ prodI ((ys.take i).map fun p => p.2.2) := prodI_pos fun x hx => by
        obtain ⟨p, hp, rfl⟩ := List.mem_map.1 hx
        exact hr p (List.mem_of_mem_take hp)
      have p2 := aprod_pos (ys.map fun p => p.1) i
      have p3 := alk_pos (ys.map fun p => p.1) i
      have p4 := hr _ hm
      have e : prodI (List.map (fun p => p.2.2) (some (ys.getD i ([], [], 0))).toList) = (ys.getD i ([], [], 0)).2.2 := by simp [prodI]
      rw [e, Int.mul_assoc, min_mul (by have := Int.mul_le_mul p1 p2 (by decide) (by omega); omega) (by have := Int.mul_le_mul p4 p3 (by decide) (by omega); omega) (by decide)]
      congr 1
      simp only [Int.mul_assoc, Int.mul_left_comm, Int.mul_comm]
    · rw [symT]
      exact ha
theorem piece_roots {S M : List Int} {n : Nat} {ys : List Dgm} (h : SrtTo ((grpOf M n).map (pieOf S M n)) ys ys.length) {p : Dgm} (hp : p ∈ ys) : 1 ≤ p.2.2 ∧ p.2.2 ≤ (n : Int) := by
  obtain ⟨G, hG, rfl⟩ := List.mem_map.1 (h.perm.mem_iff.1 hp)
  obtain ⟨c, hc, rfl⟩ := List.mem_map.1 hG
  have h0 := cls_pos (M := M) (n := n) (mem_leadsN.1 hc).1
  obtain ⟨r, hr, e1, _⟩ := (pie_is S M n h0).at_
  rw [pie_roots S M n h0]
  have h1 : 0 < rootsN S M n (clsN M n c) (pieOf S M n (clsN M n c)).1 := by
    unfold rootsN
    rw [List.countP_pos_iff]
    exact ⟨r, hr, decide_eq_true e1.symm⟩
  have h2 : rootsN S M n (clsN M n c) (pieOf S M n (clsN M n c)).1 ≤ (clsN M n c).length := List.countP_le_length
  have h3 : (clsN M n c).length ≤ n := by
    have := List.length_filter_le (fun d => okC (Conn M c d)) (List.range n)
    rw [List.length_range] at this
    exact this
  omega
theorem symT_all {S M : List Int} {n : Nat} {ys : List Dgm} (h : SrtTo ((grpOf M n).map (pieOf S M n)) ys ys.length) : (symT ys ys.length).1 = symV S M n := by
  obtain ⟨h1, _, h3⟩ := srtTo_codes h
  have := (symT_is (fun p hp => (piece_roots h hp).1) ys.length (Nat.le_refl _)).1
  rw [this, List.take_length]
  unfold symV
  rw [h1]
  have e : prodI (ys.map fun p => p.2.2) = prodI ((pinf S M n).map Prod.snd) := by
    have := h3.map Prod.snd
    rw [List.map_map] at this
    exact prodI_perm this
  rw [e, ← h1, List.length_map]
theorem symT_bd {ys : List Dgm} (hr : ∀ p, p ∈ ys → 1 ≤ p.2.2) {i : Nat} (hi : i ≤ ys.length) : 1 ≤ (symT ys i).1 ∧ (symT ys i).1 ≤ 1099511627776 ∧ 0 ≤ (symT ys i).2 ∧ (symT ys i).2 ≤ (i : Int) := by
  obtain ⟨h1, h2⟩ := symT_is hr i hi
  have p1 : 1 ≤ prodI ((ys.take i).map fun p => p.2.2) := prodI_pos fun x hx => by
    obtain ⟨p, hp, rfl⟩ := List.mem_map.1 hx
    exact hr p (List.mem_of_mem_take hp)
  have p2 := aprod_pos (ys.map fun p => p.1) i
  have p3 : 1 ≤ prodI ((ys.take i).map fun p => p.2.2) * aprod (ys.map fun p => p.1) i := by have := Int.mul_le_mul p1 p2 (by decide) (by omega); omega
  have pc : (1 : Int) ≤ capS := by decide
  have e : capS = 1099511627776 := rfl
  refine ⟨by rw [h1]; exact Int.le_min.2 ⟨p3, pc⟩, by rw [h1, ← e]; exact Int.min_le_right _ _, ?_, ?_⟩
  · rcases Nat.eq_zero_or_pos i with rfl | h
    · exact Int.le_refl _
    · rw [h2 h]; have := alk_pos (ys.map fun p => p.1) (i - 1); omega
  · rcases Nat.eq_zero_or_pos i with rfl | h
    · exact Int.le_refl _
    · rw [h2 h]; have := alk_le (ys.map fun p => p.1) (i - 1); omega
end Go.Proofs.YtmhhjchnjaefhaaDoor

namespace Go.Proofs.YtmhhjchnjaefhaaDoor
open Go Go.RowKit
theorem wrapi_all {x : Int} (h0 : -9223372036854775808 ≤ x) (h1 : x ≤ 9223372036854775807) : IntKind.i64.wrap x = x := by
  rw [IntKind.wrap_i64]; omega
theorem wrap_mul {a b B : Int} (h0 : 0 ≤ a) (h1 : a ≤ B) (h2 : 0 ≤ b) (h3 : b ≤ 21) (hB : B * 21 ≤ 9223372036854775807) : IntKind.i64.wrap (a * b) = a * b ∧ wrap64 (a * b) = a * b ∧ 0 ≤ a * b ∧ a * b ≤ B * 21 := by
  have k1 := Int.mul_nonneg h0 h2
  have k2 := Int.mul_le_mul h1 h3 h2 (by omega)
  generalize a * b = x at *
  exact ⟨wrapi_all (by omega) (by omega), by unfold wrap64; omega, k1, k2⟩
set_option maxRecDepth 100000 in
set_option maxHeartbeats 1000000 in
theorem sym_yes (S M : List Int) (L : Int) (aS aM : Option Addr) (cS cM : Nat) (w : World) (hv : vldB S M L = true) (h20 : S.length ≤ 20) (hS : IntsAt w aS S) (hM : IntsAt w aM M) :
    Calls Tryd.prog 15 #[.agg #[.slice aS S.length cS, .slice aM M.length cM, .int .i64 L]] w fun e w' => e = .returned (.int .i64 (symV S M S.length)) ∧ Below w.heap.size w w' := by
  have hs := vldB_shape hv
  have hMl := hs.len
  have HV : Hid (∀ W', Below w.heap.size w W' → Calls Tryd.prog 18 #[.agg #[.slice aS S.length cS, .slice aM M.length cM, .int .i64 L]] W' fun e w' => e = .returned (.bool true) ∧ Below W'.heap.size W' w') := Lib.hid fun W' h => by
    have g := valid_any S M L aS aM cS cM W' (by omega) (by omega) (hS.later h) (hM.later h)
    rw [hv] at g; exact g
  have HP : Hid (∀ W', Below w.heap.size w W' → Calls Tryd.prog 44 #[.agg #[.slice aS S.length cS, .slice aM M.length cM, .int .i64 L]] W' fun e w' => ∃ A C ys, e = .returned (.slice A ys.length C) ∧ Hid ((symT ys ys.length).1 = symV S M S.length ∧ ys.length ≤ 20 ∧ ∀ i, i < ys.length → (ys.getD i ([], [], 0)).1.length ≤ 100 ∧ 1 ≤ (ys.getD i ([], [], 0)).2.2 ∧ (ys.getD i ([], [], 0)).2.2 ≤ 20 ∧ 1 ≤ (symT ys i).1 ∧ (symT ys i).1 ≤ 1099511627776 ∧ 0 ≤ (symT ys i).2 ∧ (symT ys i).2 ≤ (i : Int)) ∧ RdD w' A ys ∧ Below W'.heap.size W' w') := Lib.hid fun W' h => by
    refine (cpieces_any S M L aS aM cS cM W' hv h20 (hS.later h) (hM.later h)).mono ?_
    rintro e w' ⟨A, C, ys, vs, rfl, hsr, ho, hc, hb⟩
    have hyl : ys.length ≤ 20 := by
      rw [hsr.perm.length_eq, List.length_map]; exact Nat.le_trans (grp_len M S.length) h20
    refine ⟨A, C, ys, rfl, Lib.hid ⟨symT_all hsr, hyl, fun i hi => ?_⟩, hc.rd ho, hb⟩
    have hm : ys.getD i ([], [], 0) ∈ ys := by rw [List.getD_eq_getElem?_getD, List.getElem?_eq_getElem hi]; exact List.getElem_mem _
    have h1 := piece_few (fun x hx => hs.mt_lt hx) hsr hm
    have h2 := piece_roots hsr hm
    have h3 := symT_bd (fun p hp => (piece_roots hsr hp).1) (Nat.le_of_lt hi)
    exact ⟨by omega, h2.1, by omega, h3⟩
  have HE : Hid (∀ (xs ys : List Int) (A B : Option Addr) (C D : Nat) W', xs.length ≤ 100 → IntsAt W' A xs → IntsAt W' B ys → Calls Tryd.prog 43 #[.slice A xs.length C, .slice B ys.length D] W' fun e w' => e = .returned (.bool (decide (xs = ys))) ∧ Below W'.heap.size W' w') := Lib.hid fun xs ys A B C D W' hl h1 h2 => sEq_any xs ys A B C D W' (by omega) h1 h2
  have H0 := Lib.hid ((HH.start w).alloc #[.slice aS S.length cS, .slice aM M.length cM, .int .i64 L] 24 rfl rfl)
  clear hv hS hM hs hMl h20
  generalize symV S M S.length = SV at *
  generalize S.length = n at *
  generalize M.length = N at *
  go_enter Tryd.func15, Tryd.ntmps15
  have k00 := H0.out.cell (k := 0) (i := 0) rfl rfl
  have k01 := H0.out.cell (k := 0) (i := 1) rfl rfl
  have k02 := H0.out.cell (k := 0) (i := 2) rfl rfl
  go_wp2_with fail
  clear k00 k01 k02
  refine (HV.out _ H0.out.below).mono ?_
  rintro e w1 ⟨rfl, hb⟩
  have H1 := Lib.hid (H0.out.call hb)
  clear hb H0 HV
  have k00 := H1.out.cell (k := 0) (i := 0) rfl rfl
  have k01 := H1.out.cell (k := 0) (i := 1) rfl rfl
  have k02 := H1.out.cell (k := 0) (i := 2) rfl rfl
  go_wp2_with fail
  clear k00 k01 k02
  refine (HP.out _ H1.out.below).mono ?_
  rintro e w2 ⟨A, C, ys, rfl, HY, hrd, hb⟩
  have H2 := Lib.hid (H1.out.call hb)
  have HR := Lib.hid hrd
  clear hrd hb H1 HP
  have hyl : ys.length ≤ 20 := HY.out.2.1
  have HBw := Lib.hid H2.out.below
  clear H2
  go_wp2_with fail
  go_loopg [15, 3, 4] ys.length (fun g v s3 s4 wr => ∃ i : Nat, i ≤ ys.length ∧ g = ys.length - i ∧ v = .int .i64 i ∧ s3 = .int .i64 (symT ys i).1 ∧ s4 = .int .i64 (symT ys i).2 ∧ Hid (Below w2.heap.size w2 wr))
  case atStart => exact ⟨0, Nat.zero_le _, rfl, rfl, rfl, rfl, Lib.hid (Below.refl _ _)⟩
  case round =>
    obtain ⟨i, hi, rfl, rfl, rfl, rfl, Jr⟩ := hrel
    by_cases hil : i < ys.length
    · obtain ⟨b, o, a, c, e, f, rfl, h1, h2, h3, h4, h5⟩ := (HR.out.later Jr.out) i _ (getD_some (d := ([], [], 0)) hil)
      obtain ⟨hb1, hb2, hb3, hb4, hb5, hb6, hb7⟩ := HY.out.2.2 i hil
      have HS1 : Hid ((symT ys (i + 1)).1 = min ((symT ys i).1 * (ys.getD i ([], [], 0)).2.2 * (if 0 < i ∧ (ys.getD i ([], [], 0)).1 = (ys.getD (i - 1) ([], [], 0)).1 then (symT ys i).2 + 1 else 1)) 1099511627776 ∧ (symT ys (i + 1)).2 = (if 0 < i ∧ (ys.getD i ([], [], 0)).1 = (ys.getD (i - 1) ([], [], 0)).1 then (symT ys i).2 + 1 else 1)) := Lib.hid ⟨rfl, rfl⟩
      by_cases h0 : i = 0
      · rw [if_neg (by omega)] at HS1
        have t1 : decide (0 < (i : Int)) = false := decide_eq_false (by omega)
        have t2 : decide (0 < i) = false := decide_eq_false (by omega)
        clear h0
        generalize ys.getD i ([], [], 0) = dd at *
        obtain ⟨Xd, Yd, r3⟩ := dd
        dsimp only at *
        clear h4 h5
        generalize Xd.length = l1 at *
        generalize Yd.length = l2 at *
        generalize (symT ys i).1 = tot at *
        generalize (symT ys i).2 = ak at *
        have K0 := Lib.hid ((HH.start wr).alloc #[.slice a l1 c, .slice e l2 f, .int .i64 r3] 51 (b := wr.heap.size) rfl rfl)
        have JB := Lib.hid (Jr.out.alloc Jr.out.size (.cells #[.slice a l1 c, .slice e l2 f, .int .i64 r3] 51))
        go_upto_region 9 with fail
        clear h1 h2 h3 Jr
        generalize wr.alloc (.cells #[.slice a l1 c, .slice e l2 f, .int .i64 r3] 51) = v1 at *
        generalize wr.heap.size = q at *
        go_quiet (fail)
        have y2 := fun nn => (K0.out.drewN nn).cell (k := 0) (i := 2) rfl rfl
        obtain ⟨m1, m1', m2, m3⟩ := wrap_mul (a := tot) (b := r3) (B := 1099511627776) (by omega) hb5 (by omega) (by omega) (by decide)
        obtain ⟨m4, m4', _, _⟩ := wrap_mul (a := tot * r3) (b := 1) (B := 1099511627776 * 21) m2 m3 (by omega) (by omega) (by decide)
        go_wp2_with fail
        go_roundg (ys.length - (i + 1))
        case measure => omega
        case rel => exact ⟨i + 1, by omega, rfl, by go_num, by rw [HS1.out.1, Int.mul_one], by rw [HS1.out.2], Lib.hid (below_drewNN JB.out _)⟩
      · obtain ⟨j, hj⟩ : ∃ j, i = j + 1 := ⟨i - 1, by omega⟩
        obtain ⟨b', o', a', c', e', f', hab, g1, _, _, g4, _⟩ := (HR.out.later Jr.out) j _ (getD_some (d := ([], [], 0)) (show j < ys.length by omega))
        cases hab
        have hc1 := (HY.out.2.2 j (by omega)).1
        have Hpos : Hid (0 < i) := Lib.hid (by omega)
        rw [show i - 1 = j by omega] at HS1
        have w1 : IntKind.i64.wrap ((i : Int) - 1) = (j : Int) := by rw [wrapi_mid (by omega) (by omega)]; omega
        have w1' : (i : Int) - 1 = (j : Int) := by omega
        have t1 : decide (0 < (i : Int)) = true := decide_eq_true (by omega)
        have t2 : decide (0 < i) = true := decide_eq_true (by omega)
        have hjl : j < ys.length := by omega
        have hji : (j : Int) < (ys.length : Int) := by omega
        have Hw1 := Lib.hid w1'
        clear h0 hj w1'
        generalize ys.getD i ([], [], 0) = dd at *
        generalize ys.getD j ([], [], 0) = dp at *
        obtain ⟨Xd, Yd, r3⟩ := dd
        obtain ⟨Xp, Yp, rp⟩ := dp
        dsimp only at *
        obtain ⟨rb, hrb⟩ : ∃ rb : Bool, rb = decide (Xd = Xp) := ⟨_, rfl⟩
        have HE1 : Hid (∀ W', Below wr.heap.size wr W' → Calls Tryd.prog 43 #[.slice a Xd.length c, .slice a' Xp.length c'] W' fun e w' => e = .returned (.bool rb) ∧ Below W'.heap.size W' w') := Lib.hid fun W' h => by rw [hrb]; exact HE.out Xd Xp a a' c c' W' hb1 (h4.later h) (g4.later h)
        clear h4 h5 g4
        generalize (symT ys i).1 = tot at *
        generalize (symT ys i).2 = ak at *
        generalize Xd.length = l1 at *
        generalize Yd.length = l2 at *
        generalize Xp.length = l1' at *
        have K0 := Lib.hid ((HH.start wr).alloc #[.slice a l1 c, .slice e l2 f, .int .i64 r3] 51 (b := wr.heap.size) rfl rfl)
        have JB := Lib.hid (Jr.out.alloc Jr.out.size (.cells #[.slice a l1 c, .slice e l2 f, .int .i64 r3] 51))
        have HE2 : Hid (∀ W', Below (wr.alloc (.cells #[.slice a l1 c, .slice e l2 f, .int .i64 r3] 51)).heap.size (wr.alloc (.cells #[.slice a l1 c, .slice e l2 f, .int .i64 r3] 51)) W' → Calls Tryd.prog 43 #[.slice a l1 c, .slice a' l1' c'] W' fun e w' => e = .returned (.bool rb) ∧ Below W'.heap.size W' w') := Lib.hid fun W' h => HE1.out W' (below_step ((Below.refl _ _).alloc (Nat.le_refl _) _) h)
        have HQ : Hid (∀ W', Below (wr.alloc (.cells #[.slice a l1 c, .slice e l2 f, .int .i64 r3] 51)).heap.size (wr.alloc (.cells #[.slice a l1 c, .slice e l2 f, .int .i64 r3] 51)) W' → W'.cell? ⟨wr.heap.size, 0, none⟩ = some (.slice a l1 c) ∧ W'.cell? ⟨b, o + j * 3, none⟩ = some (.slice a' l1' c')) := Lib.hid fun W' h => ⟨(K0.out.call h).cell (k := 0) (i := 0) rfl rfl, by
          have hb := (below_step ((Below.refl _ _).alloc (Nat.le_refl _) (.cells #[.slice a l1 c, .slice e l2 f, .int .i64 r3] 51)) h)
          exact (hb.cell (p := ⟨b, o + j * 3, none⟩) (World.block_lt_of_cell? _ _ g1)).trans g1⟩
        clear HE1
        go_upto_region 9 with fail
        clear h1 h2 h3 g1 Jr
        generalize wr.alloc (.cells #[.slice a l1 c, .slice e l2 f, .int .i64 r3] 51) = v1 at *
        generalize wr.heap.size = q at *
        have HE1 := HE2
        clear HE2
        have bd : Hid (Below v1.heap.size v1 v1.drew) := Lib.hid (Below.refl _ _).drew
        have Q0 := Lib.hid (HQ.out _ bd.out)
        by_cases hx : Xd = Xp
        · obtain rfl : rb = true := by rw [hrb]; exact decide_eq_true hx
          clear hrb
          rw [if_pos ⟨Hpos.out, hx⟩] at HS1
          clear hx
          go_region_held3 (fun W' => W'.cell? ⟨q, 0, none⟩ = some (.slice a l1 c) ∧ W'.cell? ⟨b, o + j * 3, none⟩ = some (.slice a' l1' c'))
            (first
              | with_reducible exact Q0.out
              | with_reducible exact Q1.out)
            (first
              | ((with_reducible refine (HE1.out _ bd.out).mono ?_); rintro e w5 ⟨rfl, hB5⟩; have B1 := Lib.hid (bd.out.trans (hB5.mono bd.out.size)); have Q1 := Lib.hid (HQ.out _ B1.out)))
          have K1 := Lib.hid (K0.out.call B1.out)
          have JB1 : Hid (Below w2.heap.size w2 w5) := Lib.hid (JB.out.trans (B1.out.mono JB.out.size))
          have y2 := K1.out.cell (k := 0) (i := 2) rfl rfl
          obtain ⟨m1, m1', m2, m3⟩ := wrap_mul (a := tot) (b := r3) (B := 1099511627776) (by omega) hb5 (by omega) (by omega) (by decide)
          obtain ⟨m4, m4', _, _⟩ := wrap_mul (a := tot * r3) (b := ak + 1) (B := 1099511627776 * 21) m2 m3 (by omega) (by omega) (by decide)
          have m5 : IntKind.i64.wrap (ak + 1) = ak + 1 := wrapi_mid (by omega) (by omega)
          go_wp2_with fail
          go_roundg (ys.length - (i + 1))
          case measure => omega
          case rel => exact ⟨i + 1, by omega, rfl, by go_num, by rw [HS1.out.1], by rw [HS1.out.2], JB1⟩
        · obtain rfl : rb = false := by rw [hrb]; exact decide_eq_false hx
          clear hrb
          rw [if_neg (fun h => hx h.2)] at HS1
          clear hx
          go_region_held3 (fun W' => W'.cell? ⟨q, 0, none⟩ = some (.slice a l1 c) ∧ W'.cell? ⟨b, o + j * 3, none⟩ = some (.slice a' l1' c'))
            (first
              | with_reducible exact Q0.out
              | with_reducible exact Q1.out)
            (first
              | ((with_reducible refine (HE1.out _ bd.out).mono ?_); rintro e w5 ⟨rfl, hB5⟩; have B1 := Lib.hid (bd.out.trans (hB5.mono bd.out.size)); have Q1 := Lib.hid (HQ.out _ B1.out)))
          have K1 := Lib.hid (K0.out.call B1.out)
          have JB1 : Hid (Below w2.heap.size w2 w5) := Lib.hid (JB.out.trans (B1.out.mono JB.out.size))
          have y2 := K1.out.cell (k := 0) (i := 2) rfl rfl
          obtain ⟨m1, m1', m2, m3⟩ := wrap_mul (a := tot) (b := r3) (B := 1099511627776) (by omega) hb5 (by omega) (by omega) (by decide)
          obtain ⟨m4, m4', _, _⟩ := wrap_mul (a := tot * r3) (b := 1) (B := 1099511627776 * 21) m2 m3 (by omega) (by omega) (by decide)
          go_wp2_with fail
          go_roundg (ys.length - (i + 1))
          case measure => omega
          case rel => exact ⟨i + 1, by omega, rfl, by go_num, by rw [HS1.out.1, Int.mul_one], by rw [HS1.out.2], JB1⟩
    · obtain rfl : i = ys.length := by omega
      have HE2 : Hid ((symT ys ys.length).1 = SV) := Lib.hid HY.out.1
      rw [HE2.out]
      clear HE2
      go_wp2_with fail
      go_ret
      exact ⟨rfl, HBw.out.trans (Jr.out.mono HBw.out.size)⟩
end Go.Proofs.YtmhhjchnjaefhaaDoor

namespace Go.Proofs.YtmhhjchnjaefhaaDoor
open Go Go.RowKit
/-- The value of a slice that the call owns. -/
def slV (d : SlO) : Value := .slice d.a d.vs.length d.c
/-- The slices ms hold the rows T. -/
def Rws (ms : List SlO) (T : List (List Int)) : Prop := ms.length = T.length ∧ ∀ (m : Nat) (d : SlO), ms[m]? = some d → d.E = 3 ∧ d.vs = ints (T.getD m [])
theorem Rws.nil : Rws [] [] := ⟨rfl, fun m d h => by simp at h⟩
theorem Rws.snoc {ms : List SlO} {T : List (List Int)} (h : Rws ms T) (a : Option Addr) (c : Nat) (row : List Int) : Rws (ms ++ [⟨a, c, 3, ints row⟩]) (T ++ [row]) := by
  refine ⟨by rw [List.length_append, List.length_append, h.1]; rfl, fun m d hd => ?_⟩
  rcases Nat.lt_or_ge m ms.length with g | g
  · rw [List.getElem?_append_left g] at hd
    obtain ⟨h1, h2⟩ := h.2 m d hd
    refine ⟨h1, ?_⟩
    rw [h2, List.getD_eq_getElem?_getD, List.getD_eq_getElem?_getD, List.getElem?_append_left (by rw [← h.1]; exact g)]
  · have hm : m < (ms ++ [(⟨a, c, 3, ints row⟩ : SlO)]).length := (List.getElem?_eq_some_iff.1 hd).1
    rw [List.length_append, List.length_singleton] at hm
    obtain rfl : m = ms.length := by omega
    rw [List.getElem?_append_right (Nat.le_refl _), Nat.sub_self] at hd
    cases hd
    refine ⟨rfl, ?_⟩
    rw [h.1, List.getD_eq_getElem?_getD, List.getElem?_append_right (Nat.le_refl _), Nat.sub_self]; rfl
theorem Rws.owned {w0 w : World} {l : Kn} {ms : List SlO} {T : List (List Int)} {A : Option Addr} {E : Nat} (h : Rws ms T) (hh : HH w0 w l (⟨A, E, 22, ms.map slV⟩ :: ms)) : OwnRows w w0.heap.size A E T := by
  refine ⟨ms.map slV, hh.own _ List.mem_cons_self, by rw [List.length_map]; exact h.1, fun i v row h1 h3 => ?_⟩
  have hi := (List.getElem?_eq_some_iff.1 h3).1
  have hil : i < ms.length := by rw [h.1]; exact hi
  have hd := List.getElem?_eq_getElem (l := ms) (i := i) hil
  rw [List.getElem?_map, hd] at h1
  obtain ⟨e1, e2⟩ := h.2 i _ hd
  have ho := hh.own _ (List.mem_cons_of_mem _ (List.mem_of_getElem? hd))
  rw [List.getD_eq_getElem?_getD, h3] at e2
  have e2 : ms[i].vs = ints row := e2
  have hv : slV ms[i] = v := Option.some.inj h1
  rw [e1, e2] at ho
  refine ⟨_, _, ?_, ho⟩
  rw [← hv]
  unfold slV
  rw [e2, ints_length]
end Go.Proofs.YtmhhjchnjaefhaaDoor


namespace Go.Proofs.YtmhhjchnjaefhaaDoor
open Go Go.RowKit
def tfS : List Int := [1, 1, 1]
def tfM : List Int := [9, 4, 7, 10, 1, 8, 11, 2, 5, 0, 3, 6]
def kkS : List Int := [1]
def kkM : List Int := [1, 0, 3, 2]
theorem tf_valid : vldB tfS tfM 0 = true := by decide +kernel
theorem kk_valid : vldB kkS kkM 0 = true := by decide +kernel
theorem tf_grp : grpOf tfM tfS.length = [[0, 1, 2]] := by
  rw [← rgroups_eq (vldB_shape tf_valid).mates]
  decide +kernel
theorem kk_grp : grpOf kkM kkS.length = [[0]] := by
  rw [← rgroups_eq (vldB_shape kk_valid).mates]
  decide +kernel
theorem tf_pinf : pinf tfS tfM tfS.length = [([1, 5, 8, 11, 6, 1, 9, 0, 3, 10, 1, 1, 4, 7, 2], 3)] := by
  unfold pinf
  rw [tf_grp]
  decide +kernel
theorem kk_pinf : pinf kkS kkM kkS.length = [([1, 1, 0, 3, 2], 1)] := by
  unfold pinf
  rw [kk_grp]
  decide +kernel
theorem srtC_one (c : List Int) : srtC [c] = [c] := by unfold srtC; exact List.mergeSort_singleton c
theorem tf_codes : codesL tfS tfM tfS.length = [[1, 5, 8, 11, 6, 1, 9, 0, 3, 10, 1, 1, 4, 7, 2]] := by
  unfold codesL; rw [tf_pinf]; exact srtC_one _
theorem kk_codes : codesL kkS kkM kkS.length = [[1, 1, 0, 3, 2]] := by
  unfold codesL; rw [kk_pinf]; exact srtC_one _
theorem tf_code : codeOf tfS tfM 0 = [0, 1, 3, 1, 5, 8, 11, 6, 1, 9, 0, 3, 10, 1, 1, 4, 7, 2] := by
  unfold codeOf; rw [tf_codes]; decide
theorem kk_code : codeOf kkS kkM 0 = [0, 1, 1, 1, 1, 0, 3, 2] := by
  unfold codeOf; rw [kk_codes]; decide
theorem tf_sym : symV tfS tfM tfS.length = 3 := by
  unfold symV; rw [tf_codes, tf_pinf]; decide
theorem dig_one {u : Nat} (h : u < 10) : Lib.decDigits u = [UInt8.ofNat (48 + u)] := by
  rw [Lib.decDigits, dif_pos h]
theorem dig_two {u : Nat} (h : 10 ≤ u) (h2 : u < 100) : Lib.decDigits u = [UInt8.ofNat (48 + u / 10), UInt8.ofNat (48 + u % 10)] := by
  rw [Lib.decDigits, dif_neg (by omega), dig_one (by omega)]; rfl
/-- The numerals that are needed, computed. -/
def itoa2 (x : Int) : List UInt8 := if x < 10 then [UInt8.ofNat (48 + x.toNat)] else [UInt8.ofNat (48 + x.toNat / 10), UInt8.ofNat (48 + x.toNat % 10)]
theorem itoa_2 {x : Int} (h : 0 ≤ x) (h2 : x < 100) : Lib.itoa x = itoa2 x := by
  unfold Lib.itoa itoa2
  rw [if_neg (by omega)]
  split
  · exact dig_one (by omega)
  · exact dig_two (by omega) (by omega)
def keyT2 (l : List Int) : Nat → List UInt8
  | 0 => []
  | i + 1 => keyT2 l i ++ (if 0 < i then [44] else []) ++ itoa2 (nth l i)
theorem keyT_2 {l : List Int} (h : ∀ x, x ∈ l → 0 ≤ x ∧ x < 100) : ∀ i, i ≤ l.length → keyT l i = keyT2 l i
  | 0, _ => rfl
  | i + 1, hi => by
    have hx := h (nth l i) (nth_mem l i hi)
    rw [keyT, keyT2, keyT_2 h i (by omega), itoa_2 hx.1 hx.2]
theorem tf_key : keyOf (cdV tfS tfM 0) = [48, 44, 49, 44, 51, 44, 49, 44, 53, 44, 56, 44, 49, 49, 44, 54, 44, 49, 44, 57, 44, 48, 44, 51, 44, 49, 48, 44, 49, 44, 49, 44, 52, 44, 55, 44, 50] := by
  unfold keyOf
  rw [cdV_yes tf_valid, tf_code, keyT_2 (by decide) _ (Nat.le_refl _)]
  decide +kernel
theorem kk_key : keyOf (cdV kkS kkM 0) = [48, 44, 49, 44, 49, 44, 49, 44, 49, 44, 48, 44, 51, 44, 50] := by
  unfold keyOf
  rw [cdV_yes kk_valid, kk_code, keyT_2 (by decide) _ (Nat.le_refl _)]
  decide +kernel
set_option maxRecDepth 100000 in
set_option maxHeartbeats 2000000 in
theorem tref_any (w : World) : Calls Tryd.prog 38 #[] w fun e w' => ∃ a b c d, e = .returned (.agg #[.slice a 3 c, .slice b 12 d, .int .i64 0]) ∧ Own w' w.heap.size 3 a c (ints tfS) ∧ Own w' w.heap.size 3 b d (ints tfM) ∧ Below w.heap.size w w' := by
  have H9 := Lib.hid ((((HH.start w).alloc #[.slice (some ⟨w.heap.size + 1, 0, none⟩) 3 3, .slice (some ⟨w.heap.size + 1 + 1, 0, none⟩) 12 12, .int .i64 0] 24 rfl rfl).alloc #[.int .i64 1, .int .i64 1, .int .i64 1] 3 (b := w.heap.size + 1) (by simp) rfl).alloc #[.int .i64 9, .int .i64 4, .int .i64 7, .int .i64 10, .int .i64 1, .int .i64 8, .int .i64 11, .int .i64 2, .int .i64 5, .int .i64 0, .int .i64 3, .int .i64 6] 3 (b := w.heap.size + 1 + 1) (by simp) rfl)
  have hF0 := H9.out.cell (k := 0) (i := 0) rfl rfl
  have hF1 := H9.out.cell (k := 0) (i := 1) rfl rfl
  have hF2 := H9.out.cell (k := 0) (i := 2) rfl rfl
  have H8 := Lib.hid (And.intro hF0 (And.intro hF1 hF2))
  clear hF0 hF1 hF2
  go_enter Tryd.func38, Tryd.ntmps38
  go_wp2_with fail
  obtain ⟨hF0, hF1, hF2⟩ := H8.out
  refine bodyPost_ret (v := .agg #[.slice (some ⟨w.heap.size + 1, 0, none⟩) 3 3, .slice (some ⟨w.heap.size + 1 + 1, 0, none⟩) 12 12, .int .i64 0]) (by simp [results, Tryd.results38, go_sem, hF0, hF1, hF2]) rfl ?_
  exact ⟨_, _, 3, 12, rfl, (H9.out.row (k := 1) rfl).own (Nat.le_add_right _ 1), (H9.out.row (k := 2) rfl).own (Nat.le_add_right _ 2), H9.out.below⟩
set_option maxRecDepth 100000 in
set_option maxHeartbeats 2000000 in
theorem kink_any (w : World) : Calls Tryd.prog 39 #[] w fun e w' => ∃ a b c d, e = .returned (.agg #[.slice a 1 c, .slice b 4 d, .int .i64 0]) ∧ Own w' w.heap.size 3 a c (ints kkS) ∧ Own w' w.heap.size 3 b d (ints kkM) ∧ Below w.heap.size w w' := by
  have H9 := Lib.hid ((((HH.start w).alloc #[.slice (some ⟨w.heap.size + 1, 0, none⟩) 1 1, .slice (some ⟨w.heap.size + 1 + 1, 0, none⟩) 4 4, .int .i64 0] 24 rfl rfl).alloc #[.int .i64 1] 3 (b := w.heap.size + 1) (by simp) rfl).alloc #[.int .i64 1, .int .i64 0, .int .i64 3, .int .i64 2] 3 (b := w.heap.size + 1 + 1) (by simp) rfl)
  have hF0 := H9.out.cell (k := 0) (i := 0) rfl rfl
  have hF1 := H9.out.cell (k := 0) (i := 1) rfl rfl
  have hF2 := H9.out.cell (k := 0) (i := 2) rfl rfl
  have H8 := Lib.hid (And.intro hF0 (And.intro hF1 hF2))
  clear hF0 hF1 hF2
  go_enter Tryd.func39, Tryd.ntmps39
  go_wp2_with fail
  obtain ⟨hF0, hF1, hF2⟩ := H8.out
  refine bodyPost_ret (v := .agg #[.slice (some ⟨w.heap.size + 1, 0, none⟩) 1 1, .slice (some ⟨w.heap.size + 1 + 1, 0, none⟩) 4 4, .int .i64 0]) (by simp [results, Tryd.results39, go_sem, hF0, hF1, hF2]) rfl ?_
  exact ⟨_, _, 1, 4, rfl, (H9.out.row (k := 1) rfl).own (Nat.le_add_right _ 1), (H9.out.row (k := 2) rfl).own (Nat.le_add_right _ 2), H9.out.below⟩
set_option maxRecDepth 100000 in
set_option maxHeartbeats 4000000 in
theorem awake_any (w : World) (ht : Pow10 w) : Calls Tryd.prog 11 #[] w fun e w' => e = .returned (.bool true) ∧ Below w.heap.size w w' := by
  have HT : Hid (∀ W', Below w.heap.size w W' → Pow10 W') := Lib.hid fun W' h => ht.later h
  have HR : Hid (∀ W', Calls Tryd.prog 38 #[] W' fun e w' => ∃ a b c d, e = .returned (.agg #[.slice a 3 c, .slice b 12 d, .int .i64 0]) ∧ Own w' W'.heap.size 3 a c (ints tfS) ∧ Own w' W'.heap.size 3 b d (ints tfM) ∧ Below W'.heap.size W' w') := Lib.hid tref_any
  have HK : Hid (∀ W', Calls Tryd.prog 39 #[] W' fun e w' => ∃ a b c d, e = .returned (.agg #[.slice a 1 c, .slice b 4 d, .int .i64 0]) ∧ Own w' W'.heap.size 3 a c (ints kkS) ∧ Own w' W'.heap.size 3 b d (ints kkM) ∧ Below W'.heap.size W' w') := Lib.hid kink_any
  have HS : Hid (∀ W' a b c d, IntsAt W' a tfS → IntsAt W' b tfM → Calls Tryd.prog 15 #[.agg #[.slice a 3 c, .slice b 12 d, .int .i64 0]] W' fun e w' => e = .returned (.int .i64 3) ∧ Below W'.heap.size W' w') := Lib.hid fun W' a b c d h1 h2 => by
    have g := sym_yes tfS tfM 0 a b c d W' tf_valid (by decide) h1 h2
    rw [tf_sym] at g
    exact g
  have HY : Hid (∀ W' a b c d, Pow10 W' → IntsAt W' a tfS → IntsAt W' b tfM → Calls Tryd.prog 24 #[.agg #[.slice a 3 c, .slice b 12 d, .int .i64 0]] W' fun e w' => e = .returned (.string ⟨#[48, 44, 49, 44, 51, 44, 49, 44, 53, 44, 56, 44, 49, 49, 44, 54, 44, 49, 44, 57, 44, 48, 44, 51, 44, 49, 48, 44, 49, 44, 49, 44, 52, 44, 55, 44, 50]⟩) ∧ Below W'.heap.size W' w') := Lib.hid fun W' a b c d h h1 h2 => by
    have g := key_any tfS tfM 0 a b c d W' (by decide) (by decide) h h1 h2
    rw [tf_key] at g
    exact g
  have HZ : Hid (∀ W' a b c d, Pow10 W' → IntsAt W' a kkS → IntsAt W' b kkM → Calls Tryd.prog 24 #[.agg #[.slice a 1 c, .slice b 4 d, .int .i64 0]] W' fun e w' => e = .returned (.string ⟨#[48, 44, 49, 44, 49, 44, 49, 44, 49, 44, 48, 44, 51, 44, 50]⟩) ∧ Below W'.heap.size W' w') := Lib.hid fun W' a b c d h h1 h2 => by
    have g := key_any kkS kkM 0 a b c d W' (by decide) (by decide) h h1 h2
    rw [kk_key] at g
    exact g
  have H0 := Lib.hid (HH.start w)
  go_enter Tryd.func11, Tryd.ntmps11
  go_wp2_with fail
  refine (HR.out _).mono ?_
  rintro e w1 ⟨aK, bK, cK, dK, rfl, ho1, ho2, hb⟩
  have H1 := Lib.hid (H0.out.call hb)
  have O1 := Lib.hid (And.intro ho1.ints ho2.ints)
  clear ho1 ho2 hb H0
  go_wp2_with fail
  refine (HS.out _ aK bK cK dK O1.out.1 O1.out.2).mono ?_
  rintro e w2 ⟨rfl, hb⟩
  have H2 := Lib.hid (H1.out.call hb)
  clear hb H1 O1
  go_wp2_with fail
  refine (HR.out _).mono ?_
  rintro e w3 ⟨aJ, bJ, cJ, dJ, rfl, ho1, ho2, hb⟩
  have H3 := Lib.hid (H2.out.call hb)
  have O3 := Lib.hid (And.intro ho1.ints ho2.ints)
  clear ho1 ho2 hb H2
  go_wp2_with fail
  refine (HY.out _ aJ bJ cJ dJ (HT.out _ H3.out.below) O3.out.1 O3.out.2).mono ?_
  rintro e w4 ⟨rfl, hb⟩
  have H4 := Lib.hid (H3.out.call hb)
  clear hb H3 O3
  go_wp2_with fail
  refine (HK.out _).mono ?_
  rintro e w5 ⟨aI, bI, cI, dI, rfl, ho1, ho2, hb⟩
  have H5 := Lib.hid (H4.out.call hb)
  have O5 := Lib.hid (And.intro ho1.ints ho2.ints)
  clear ho1 ho2 hb H4
  go_wp2_with fail
  refine (HZ.out _ aI bI cI dI (HT.out _ H5.out.below) O5.out.1 O5.out.2).mono ?_
  rintro e w6 ⟨rfl, hb⟩
  have H6 := Lib.hid (H5.out.call hb)
  clear hb H5 O5
  go_wp2_with fail
  go_ret
  exact ⟨rfl, H6.out.below⟩
end Go.Proofs.YtmhhjchnjaefhaaDoor

