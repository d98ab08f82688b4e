/- The reference: Graph, the parts as lists; Part, a part of a diagram by itself. The examples of the chapter, walked: Trefoil, Kink, awake of law05. diagram.Renumber: what it answers for any diagram and any numbers. canon.Form: the canonical form of a diagram. law05's great: whether a diagram is too great. The walk of the law CanonInvariant. -/
import Derived.WalkKit
import Derived.WalkSpells
import Derived.WalkLawsBesides
import Derived.Deep.AppendSrc
import Derived.Deep.LoopGhost
import Derived.Deep.QuietTactic
import Derived.Deep.RegionWith
import Derived.Deep.DeepMust
import Derived.Deep.DeepFit
import Derived.BigQuiet
import Derived.Lib.Hide
import Derived.Outline
import Derived.Test.YtmhhjchnjaefhaaDoorProg
import Derived.Deep.Matrix
import Derived.Deep.DeepCutAuto
import Derived.Deep.RegionLaw
import Derived.Deep.RegionHeld3
import Derived.Lib.SliceRun
import Derived.Shelf.Strings.Builder1
import Derived.Shelf.Small.Wraps
import Derived.Shelf.Strings.BuilderF
import Derived.Shelf.Strings.BuilderK
import Derived.Shelf.Strconv.Itoa0
import Derived.Shelf.Strconv.Itoa1
import Derived.Shelf.LaysM
import Derived.Shelf.Strconv.Itoa2
import Derived.Shelf.Strconv.Itoa3
import Derived.Shelf.Slices.Equal
import Derived.Ground.Names2Prog
import Derived.Shelf.Slices.Clone
import Derived.Shelf.Slices.SearchI
import Derived.Shelf.Slices.Empties2
import Derived.Ground.SlgnProg
import Derived.Shelf.SlicesE.Clone
import Derived.Sort.OwnSortedInts
import Derived.Shelf.Small.Bits
import Derived.Shelf.Sort.Plain
import Derived.Shelf.Slices.Turned
import Derived.Shelf.Slices.CompactI
import Derived.Shelf.Slices.Cells
import Derived.Shelf.Slices.In.SortNone
import Derived.Lib.AppendZeros
import Derived.Deep.RegionHeld
import Derived.Lib.Builder
import Derived.Lib.AppendStr
import Derived.Lib.Walk
import Derived.Laws.Externs
import Derived.Lib.AppendIntMem
import Derived.Test.YtmhhjchnjaefhaaDoorUAa
import Derived.Test.YtmhhjchnjaefhaaDoorUAc
import Derived.Test.YtmhhjchnjaefhaaDoorUAd
import Derived.Test.YtmhhjchnjaefhaaDoorUAe
import Derived.Test.YtmhhjchnjaefhaaDoorUAf
import Derived.Test.YtmhhjchnjaefhaaDoorUAg
import Derived.Test.YtmhhjchnjaefhaaDoorUAh
import Derived.Test.YtmhhjchnjaefhaaDoorUAi
import Derived.Test.YtmhhjchnjaefhaaDoorUAj
import Derived.Test.YtmhhjchnjaefhaaDoorUAr
import Derived.Test.YtmhhjchnjaefhaaDoorUAb
import Derived.Test.YtmhhjchnjaefhaaDoorUAk
import Derived.Test.YtmhhjchnjaefhaaDoorUAl
import Derived.Test.YtmhhjchnjaefhaaDoorUAm
import Derived.Test.YtmhhjchnjaefhaaDoorUAn
import Derived.Test.YtmhhjchnjaefhaaDoorUAp
import Derived.Test.YtmhhjchnjaefhaaDoorUAq
import Derived.Test.YtmhhjchnjaefhaaDoorUAo
namespace Go.Proofs.YtmhhjchnjaefhaaDoor
open Go Go.RowKit
theorem nthO_last {α : Type} (l : List α) (x : α) : nthO (l ++ [x]) l.length = some x := by
  induction l with
  | nil => rfl
  | cons y l ih => exact ih
theorem setO_last {α : Type} (l : List α) (x y : α) : setO (l ++ [x]) l.length y = l ++ [y] := by
  induction l with
  | nil => rfl
  | cons z l ih => show z :: setO (l ++ [x]) l.length y = z :: (l ++ [y]); rw [ih]
/-- The value of a slice that the call owns. -/
def slV (d : SlO) : Value := .slice d.a d.vs.length d.c
/-- The slices ms hold the rows T. -/
def Rws (ms : List SlO) (T : List (List Int)) : Prop := ms.length = T.length ∧ ∀ (m : Nat) (d : SlO), ms[m]? = some d → d.E = 3 ∧ d.vs = ints (T.getD m [])
theorem Rws.nil : Rws [] [] := ⟨rfl, fun m d h => by simp at h⟩
theorem Rws.snoc {ms : List SlO} {T : List (List Int)} (h : Rws ms T) (a : Option Addr) (c : Nat) (row : List Int) : Rws (ms ++ [⟨a, c, 3, ints row⟩]) (T ++ [row]) := by
  refine ⟨by rw [List.length_append, List.length_append, h.1]; rfl, fun m d hd => ?_⟩
  rcases Nat.lt_or_ge m ms.length with g | g
  · rw [List.getElem?_append_left g] at hd
    obtain ⟨h1, h2⟩ := h.2 m d hd
    refine ⟨h1, ?_⟩
    rw [h2, List.getD_eq_getElem?_getD, List.getD_eq_getElem?_getD, List.getElem?_append_left (by rw [← h.1]; exact g)]
  · have hm : m < (ms ++ [(⟨a, c, 3, ints row⟩ : SlO)]).length := (List.getElem?_eq_some_iff.1 hd).1
    rw [List.length_append, List.length_singleton] at hm
    obtain rfl : m = ms.length := by omega
    rw [List.getElem?_append_right (Nat.le_refl _), Nat.sub_self] at hd
    cases hd
    refine ⟨rfl, ?_⟩
    rw [h.1, List.getD_eq_getElem?_getD, List.getElem?_append_right (Nat.le_refl _), Nat.sub_self]; rfl
theorem Rws.owned {w0 w : World} {l : Kn} {ms : List SlO} {T : List (List Int)} {A : Option Addr} {E : Nat} (h : Rws ms T) (hh : HH w0 w l (⟨A, E, 22, ms.map slV⟩ :: ms)) : OwnRows w w0.heap.size A E T := by
  refine ⟨ms.map slV, hh.own _ List.mem_cons_self, by rw [List.length_map]; exact h.1, fun i v row h1 h3 => ?_⟩
  have hi := (List.getElem?_eq_some_iff.1 h3).1
  have hil : i < ms.length := by rw [h.1]; exact hi
  have hd := List.getElem?_eq_getElem (l := ms) (i := i) hil
  rw [List.getElem?_map, hd] at h1
  obtain ⟨e1, e2⟩ := h.2 i _ hd
  have ho := hh.own _ (List.mem_cons_of_mem _ (List.mem_of_getElem? hd))
  rw [List.getD_eq_getElem?_getD, h3] at e2
  have e2 : ms[i].vs = ints row := e2
  have hv : slV ms[i] = v := Option.some.inj h1
  rw [e1, e2] at ho
  refine ⟨_, _, ?_, ho⟩
  rw [← hv]
  unfold slV
  rw [e2, ints_length]
/-- The crossings below b with label c. -/
def rgC (lb : List Int) (c b : Nat) : List Nat := (List.range b).filter fun d => decide (nth lb d = (c : Int))
def rgT (lb : List Int) (n k : Nat) : List (List Int) := ((List.range k).filter fun c => decide (nth lb c = (c : Int))).map fun c => nats (rgC lb c n)
theorem rgC_yes {lb : List Int} {c b : Nat} (h : nth lb b = (c : Int)) : rgC lb c (b + 1) = rgC lb c b ++ [b] := by
  unfold rgC; rw [List.range_succ, List.filter_append]; simp [h]
theorem rgC_no {lb : List Int} {c b : Nat} (h : nth lb b ≠ (c : Int)) : rgC lb c (b + 1) = rgC lb c b := by
  unfold rgC; rw [List.range_succ, List.filter_append]; simp [h]
theorem rgC_len (lb : List Int) (c b : Nat) : (rgC lb c b).length ≤ b := by
  have := List.length_filter_le (fun d => decide (nth lb d = (c : Int))) (List.range b)
  rwa [List.length_range] at this
theorem rgT_yes {lb : List Int} {n k : Nat} (h : nth lb k = (k : Int)) : rgT lb n (k + 1) = rgT lb n k ++ [nats (rgC lb k n)] := by
  unfold rgT; rw [List.range_succ, List.filter_append, List.map_append]; simp [h]
theorem rgT_no {lb : List Int} {n k : Nat} (h : nth lb k ≠ (k : Int)) : rgT lb n (k + 1) = rgT lb n k := by
  unfold rgT; rw [List.range_succ, List.filter_append, List.map_append]; simp [h]
theorem rgT_len (lb : List Int) (n k : Nat) : (rgT lb n k).length ≤ k := by
  unfold rgT
  rw [List.length_map]
  have := List.length_filter_le (fun c => decide (nth lb c = (c : Int))) (List.range k)
  rwa [List.length_range] at this
theorem rgT_all {M : List Int} {n : Nat} (hm : MateOk M n) : rgT (rlabel M n) n n = (grpOf M n).map nats := by
  rw [← rgroups_eq hm, List.map_map]; rfl
set_option maxRecDepth 100000 in
set_option maxHeartbeats 4000000 in
theorem rgraph_any (M : List Int) (n : Nat) (aM : Option Addr) (cM : Nat) (w : World) (hn : n ≤ 64) (hl : M.length = 4 * n) (hm : MateOk M n) (hM : IntsAt w aM M) :
    Calls Tryd.prog 70 #[.slice aM M.length cM] w fun e w' => ∃ a c, e = .returned (.slice a (grpOf M n).length c) ∧ OwnRows w' w.heap.size a c ((grpOf M n).map nats) ∧ Below w.heap.size w w' := by
  have HLb : Hid (∀ W', Below w.heap.size w W' → Calls Tryd.prog 41 #[.slice aM M.length cM] W' fun e w' => ∃ a c, e = .returned (.slice a n c) ∧ Below W'.heap.size W' w' ∧ Own w' W'.heap.size 3 a c (ints (rlabel M n))) := Lib.hid fun W' h => rlabel_any M n aM cM W' (by omega) hl hm (hM.later h)
  have hlen : (rlabel M n).length = n := rlPass_len M n n
  have HG : Hid (rgT (rlabel M n) n n = (grpOf M n).map nats) := Lib.hid (rgT_all hm)
  have HGl : Hid ((grpOf M n).length = (rgT (rlabel M n) n n).length) := Lib.hid (by rw [HG.out, List.length_map])
  rw [← HG.out, HGl.out]
  obtain ⟨i0, hi0, hz0, hz1, hz2⟩ := info_parts Tryd.info3
  obtain ⟨i1, hi1, hy0, hy1, hy2⟩ := info_parts Tryd.info22
  have H0 := Lib.hid (HH.start w)
  clear hl hm hM HG HGl
  generalize rlabel M n = lb at *
  have Htl := Lib.hid (rgT_len lb n)
  have Hcl := Lib.hid (rgC_len lb)
  go_enter Tryd.func70, Tryd.ntmps70
  go_wp2_with fail
  refine (HLb.out _ (Below.refl _ _)).mono ?_
  rintro e w1 ⟨aL, cL, rfl, hb, ho⟩
  have H1 := Lib.hid ((H0.out.addSl hb ho).addNil 22)
  clear hb ho H0 HLb
  go_wp2_with fail
  go_loopg [5, 4] n (fun g v s4 wr => ∃ (c : Nat) (ms : List SlO) (A : Option Addr) (C k : Nat), c ≤ n ∧ g = n - c ∧ v = .int .i64 c ∧ s4 = .slice A k C ∧ k ≤ c ∧ Hid (Rws ms (rgT lb n c) ∧ k = ms.length) ∧ HH w wr [] (⟨aL, cL, 3, ints lb⟩ :: ⟨A, C, 22, ms.map slV⟩ :: ms))
  case atStart => exact ⟨0, [], none, 0, 0, Nat.zero_le _, rfl, rfl, rfl, Nat.le_refl _, Lib.hid ⟨Rws.nil, rfl⟩, H1.out⟩
  case round =>
    obtain ⟨c, ms, A, C, k, hc, rfl, rfl, rfl, hkc, Hr, hh⟩ := hrel
    have Hh := Lib.hid hh
    clear hh H1
    by_cases hcn : c < n
    · obtain ⟨bL, oL, rfl, _, _, hcL, _⟩ := (Hh.out.sl (k := 0) rfl).open (by show 0 < (ints lb).length; rw [ints_length]; omega)
      have hcx := hcL c _ (ints_get lb c (by omega))
      clear hcL
      by_cases hlc : nth lb c = (c : Int)
      · have t1 : (nth lb c != (c : Int)) = false := by rw [hlc]; simp
        have HT := Lib.hid (rgT_yes (n := n) hlc)
        have H2 := Lib.hid (Hh.out.addNil 3)
        generalize nth lb c = lc at *
        clear hlc Hh
        go_wp2_with fail
        clear hcx t1
        go_loopg [7, 6] n (fun g v s6 wx => ∃ (b : Nat) (a : Option Addr) (cc j : Nat), b ≤ n ∧ g = n - b ∧ v = .int .i64 b ∧ s6 = .slice a j cc ∧ j ≤ b ∧ Hid (j = (rgC lb c b).length) ∧ HH w wx [] (⟨some ⟨bL, oL, none⟩, cL, 3, ints lb⟩ :: ⟨A, C, 22, ms.map slV⟩ :: (ms ++ [⟨a, cc, 3, ints (nats (rgC lb c b))⟩])))
        case atStart => exact ⟨0, none, 0, 0, Nat.zero_le _, rfl, rfl, rfl, Nat.le_refl _, Lib.hid rfl, H2.out⟩
        case round =>
          obtain ⟨b, a, cc, j, hb, rfl, rfl, rfl, hjb, Hj, hh⟩ := hrel
          have Hh := Lib.hid hh
          clear hh H2
          by_cases hbn : b < n
          · obtain ⟨bL', oL', e, _, _, hcL, _⟩ := (Hh.out.sl (k := 0) rfl).open (by show 0 < (ints lb).length; rw [ints_length]; omega)
            cases e
            have hcx := hcL b _ (ints_get lb b (by omega))
            clear hcL
            by_cases hlb : nth lb b = (c : Int)
            · have t1 : (nth lb b == (c : Int)) = true := by rw [hlb]; simp
              have HC := Lib.hid (rgC_yes hlb)
              generalize nth lb b = lv at *
              clear hlb
              have Ha := Lib.hid (Hh.out.call ((Below.refl _ _).alloc (Nat.le_refl _) (.cells #[.int .i64 (b : Int)] 3)))
              have Hc0 : Hid ((wr.alloc (.cells #[.int .i64 (b : Int)] 3)).cell? ⟨wr.heap.size, 0, none⟩ = some (.int .i64 (b : Int))) := Lib.hid ((Row.new wr #[.int .i64 (b : Int)] 3).cell 0)
              have Hl1 := Lib.hid Ha.out.below.size
              have Hnt : Hid ((ints (nats (rgC lb c b))).length = j) := Lib.hid (by rw [ints_length, nats_length, Hj.out])
              have Hsl : Hid (Own (wr.alloc (.cells #[.int .i64 (b : Int)] 3)) w.heap.size 3 a cc (ints (nats (rgC lb c b)))) := Lib.hid (Ha.out.sl (k := ms.length + 2) (nthO_last ms _))
              have HGr : Hid (∀ (A7 : Option Addr) (e7 : Nat) (w7 : World), Own w7 w.heap.size 3 A7 e7 (ints (nats (rgC lb c b)) ++ [.int .i64 (b : Int)]) → Turned (wr.alloc (.cells #[.int .i64 (b : Int)] 3)) w7 a → (∀ x, A7 = some x → ((wr.alloc (.cells #[.int .i64 (b : Int)] 3)).heap.size ≤ x.block ∨ ∃ y, a = some y ∧ x = y)) →
                  HH w w7 [] (⟨some ⟨bL, oL, none⟩, cL, 3, ints lb⟩ :: ⟨A, C, 22, ms.map slV⟩ :: (ms ++ [⟨A7, e7, 3, ints (nats (rgC lb c (b + 1)))⟩]))) := Lib.hid fun A7 e7 w7 h1 h2 h3 => by
                have h := Ha.out.grow (k := ms.length + 2) (nthO_last ms _) h1 h2 h3
                have e := setO_last ms (⟨a, cc, 3, ints (nats (rgC lb c b))⟩ : SlO) ⟨A7, e7, 3, ints (nats (rgC lb c b)) ++ [.int .i64 (b : Int)]⟩
                rw [HC.out, ← nats_snoc, ← ints_snoc, ← e]
                exact h
              go_wp2_with (with_reducible refine wpList_append_one rfl (.tmp 34) (.tmp 36) 22 rfl w.heap.size 3 i0 _ 8 Tryd.underlying22 hi0 hz0 hz1 hz2 rfl a j cc (ints (nats (rgC lb c b))) rfl Hnt.out Hsl.out ⟨wr.heap.size, 0, none⟩ 1 (.int .i64 (b : Int)) rfl Hc0.out rfl (by omega) (by omega) Hl1.out ?_; intro A7 e7 w7 hO7 hT7 hA7; have H7 := Lib.hid (HGr.out A7 e7 w7 hO7 hT7 hA7); clear hO7 hT7 hA7)
              go_roundg (n - (b + 1))
              case measure => omega
              case rel => exact ⟨b + 1, A7, e7, j + 1, by omega, rfl, by go_num, rfl, by omega, Lib.hid (by rw [HC.out, List.length_append, Hj.out]; rfl), H7.out⟩
            · have t1 : (nth lb b == (c : Int)) = false := by simpa using hlb
              have HC := Lib.hid (rgC_no hlb)
              generalize nth lb b = lv at *
              clear hlb
              go_wp2_with fail
              go_roundg (n - (b + 1))
              case measure => omega
              case rel => exact ⟨b + 1, a, cc, j, by omega, rfl, by go_num, rfl, by omega, Lib.hid (by rw [HC.out]; exact Hj.out), by rw [HC.out]; exact Hh.out⟩
          · obtain rfl : b = n := by omega
            have Hr2 : Hid (Rws (ms ++ [⟨a, cc, 3, ints (nats (rgC lb c b))⟩]) (rgT lb b (c + 1))) := Lib.hid (by rw [HT.out]; exact Hr.out.1.snoc a cc _)
            have Ha := Lib.hid (Hh.out.call ((Below.refl _ _).alloc (Nat.le_refl _) (.cells #[.slice a j cc] 22)))
            have Hc0 : Hid ((wr.alloc (.cells #[.slice a j cc] 22)).cell? ⟨wr.heap.size, 0, none⟩ = some (.slice a j cc)) := Lib.hid ((Row.new wr #[.slice a j cc] 22).cell 0)
            have Hl1 := Lib.hid Ha.out.below.size
            have Hnt : Hid ((ms.map slV).length = k) := Lib.hid (by rw [List.length_map, Hr.out.2])
            have Hsl : Hid (Own (wr.alloc (.cells #[.slice a j cc] 22)) w.heap.size 22 A C (ms.map slV)) := Lib.hid (Ha.out.sl (k := 1) rfl)
            have HGr : Hid (∀ (A7 : Option Addr) (e7 : Nat) (w7 : World), Own w7 w.heap.size 22 A7 e7 (ms.map slV ++ [.slice a j cc]) → Turned (wr.alloc (.cells #[.slice a j cc] 22)) w7 A → (∀ x, A7 = some x → ((wr.alloc (.cells #[.slice a j cc] 22)).heap.size ≤ x.block ∨ ∃ y, A = some y ∧ x = y)) →
                HH w w7 [] (⟨some ⟨bL, oL, none⟩, cL, 3, ints lb⟩ :: ⟨A7, e7, 22, (ms ++ [(⟨a, cc, 3, ints (nats (rgC lb c b))⟩ : SlO)]).map slV⟩ :: (ms ++ [⟨a, cc, 3, ints (nats (rgC lb c b))⟩]))) := Lib.hid fun A7 e7 w7 h1 h2 h3 => by
              have h := Ha.out.grow (k := 1) rfl h1 h2 h3
              have e : (ms ++ [(⟨a, cc, 3, ints (nats (rgC lb c b))⟩ : SlO)]).map slV = ms.map slV ++ [.slice a j cc] := by
                rw [List.map_append]
                show ms.map slV ++ [.slice a (ints (nats (rgC lb c b))).length cc] = _
                rw [ints_length, nats_length, ← Hj.out]
              rw [e]
              exact h
            go_wp2_with (with_reducible refine wpList_append_one rfl (.tmp 38) (.tmp 40) 41 rfl w.heap.size 22 i1 _ 24 Tryd.underlying41 hi1 hy0 hy1 hy2 rfl A k C (ms.map slV) rfl Hnt.out Hsl.out ⟨wr.heap.size, 0, none⟩ 1 (.slice a j cc) rfl Hc0.out rfl (by omega) (by omega) Hl1.out ?_; intro A7 e7 w7 hO7 hT7 hA7; have H7 := Lib.hid (HGr.out A7 e7 w7 hO7 hT7 hA7); clear hO7 hT7 hA7)
            go_roundg (b - (c + 1))
            case measure => omega
            case rel => exact ⟨c + 1, _, A7, e7, k + 1, by omega, rfl, by go_num, rfl, by omega, Lib.hid ⟨Hr2.out, by rw [List.length_append, Hr.out.2]; rfl⟩, H7.out⟩
      · have t1 : (nth lb c != (c : Int)) = true := by simpa using hlc
        have HT := Lib.hid (rgT_no (n := n) hlc)
        generalize nth lb c = lc at *
        clear hlc
        go_wp2_with fail
        go_roundg (n - (c + 1))
        case measure => omega
        case rel => exact ⟨c + 1, ms, A, C, k, by omega, rfl, by go_num, rfl, by omega, Lib.hid (by rw [HT.out]; exact Hr.out), Hh.out⟩
    · obtain rfl : c = n := by omega
      go_wp2_with fail
      go_ret
      exact ⟨A, C, by rw [← Hr.out.1.1, ← Hr.out.2]; rfl, Hr.out.1.owned (Hh.out.forget (List.sublist_cons_self _ _)), Hh.out.below⟩
end Go.Proofs.YtmhhjchnjaefhaaDoor


namespace Go.Proofs.YtmhhjchnjaefhaaDoor
open Go Go.RowKit
def tfS : List Int := [1, 1, 1]
def tfM : List Int := [9, 4, 7, 10, 1, 8, 11, 2, 5, 0, 3, 6]
def kkS : List Int := [1]
def kkM : List Int := [1, 0, 3, 2]
theorem tf_valid : vldB tfS tfM 0 = true := by decide +kernel
theorem kk_valid : vldB kkS kkM 0 = true := by decide +kernel
theorem tf_grp : grpOf tfM tfS.length = [[0, 1, 2]] := by
  rw [← rgroups_eq (vldB_shape tf_valid).mates]
  decide +kernel
theorem kk_grp : grpOf kkM kkS.length = [[0]] := by
  rw [← rgroups_eq (vldB_shape kk_valid).mates]
  decide +kernel
theorem tf_pinf : pinf tfS tfM tfS.length = [([1, 5, 8, 11, 6, 1, 9, 0, 3, 10, 1, 1, 4, 7, 2], 3)] := by
  unfold pinf
  rw [tf_grp]
  decide +kernel
theorem kk_pinf : pinf kkS kkM kkS.length = [([1, 1, 0, 3, 2], 1)] := by
  unfold pinf
  rw [kk_grp]
  decide +kernel
theorem srtC_one (c : List Int) : srtC [c] = [c] := by unfold srtC; exact List.mergeSort_singleton c
theorem tf_codes : codesL tfS tfM tfS.length = [[1, 5, 8, 11, 6, 1, 9, 0, 3, 10, 1, 1, 4, 7, 2]] := by
  unfold codesL; rw [tf_pinf]; exact srtC_one _
theorem kk_codes : codesL kkS kkM kkS.length = [[1, 1, 0, 3, 2]] := by
  unfold codesL; rw [kk_pinf]; exact srtC_one _
theorem tf_code : codeOf tfS tfM 0 = [0, 1, 3, 1, 5, 8, 11, 6, 1, 9, 0, 3, 10, 1, 1, 4, 7, 2] := by
  unfold codeOf; rw [tf_codes]; decide
theorem kk_code : codeOf kkS kkM 0 = [0, 1, 1, 1, 1, 0, 3, 2] := by
  unfold codeOf; rw [kk_codes]; decide
theorem tf_sym : symV tfS tfM tfS.length = 3 := by
  unfold symV; rw [tf_codes, tf_pinf]; decide
theorem dig_one {u : Nat} (h : u < 10) : Lib.decDigits u = [UInt8.ofNat (48 + u)] := by
  rw [Lib.decDigits, dif_pos h]
theorem dig_two {u : Nat} (h : 10 ≤ u) (h2 : u < 100) : Lib.decDigits u = [UInt8.ofNat (48 + u / 10), UInt8.ofNat (48 + u % 10)] := by
  rw [Lib.decDigits, dif_neg (by omega), dig_one (by omega)]; rfl
/-- The numerals that are needed, computed. -/
def itoa2 (x : Int) : List UInt8 := if x < 10 then [UInt8.ofNat (48 + x.toNat)] else [UInt8.ofNat (48 + x.toNat / 10), UInt8.ofNat (48 + x.toNat % 10)]
theorem itoa_2 {x : Int} (h : 0 ≤ x) (h2 : x < 100) : Lib.itoa x = itoa2 x := by
  unfold Lib.itoa itoa2
  rw [if_neg (by omega)]
  split
  · exact dig_one (by omega)
  · exact dig_two (by omega) (by omega)
def keyT2 (l : List Int) : Nat → List UInt8
  | 0 => []
  | i + 1 => keyT2 l i ++ (if 0 < i then [44] else []) ++ itoa2 (nth l i)
theorem keyT_2 {l : List Int} (h : ∀ x, x ∈ l → 0 ≤ x ∧ x < 100) : ∀ i, i ≤ l.length → keyT l i = keyT2 l i
  | 0, _ => rfl
  | i + 1, hi => by
    have hx := h (nth l i) (nth_mem l i hi)
    rw [keyT, keyT2, keyT_2 h i (by omega), itoa_2 hx.1 hx.2]
theorem tf_key : keyOf (cdV tfS tfM 0) = [48, 44, 49, 44, 51, 44, 49, 44, 53, 44, 56, 44, 49, 49, 44, 54, 44, 49, 44, 57, 44, 48, 44, 51, 44, 49, 48, 44, 49, 44, 49, 44, 52, 44, 55, 44, 50] := by
  unfold keyOf
  rw [cdV_yes tf_valid, tf_code, keyT_2 (by decide) _ (Nat.le_refl _)]
  decide +kernel
theorem kk_key : keyOf (cdV kkS kkM 0) = [48, 44, 49, 44, 49, 44, 49, 44, 49, 44, 48, 44, 51, 44, 50] := by
  unfold keyOf
  rw [cdV_yes kk_valid, kk_code, keyT_2 (by decide) _ (Nat.le_refl _)]
  decide +kernel
set_option maxRecDepth 100000 in
set_option maxHeartbeats 2000000 in
theorem tref_any (w : World) : Calls Tryd.prog 38 #[] w fun e w' => ∃ a b c d, e = .returned (.agg #[.slice a 3 c, .slice b 12 d, .int .i64 0]) ∧ Own w' w.heap.size 3 a c (ints tfS) ∧ Own w' w.heap.size 3 b d (ints tfM) ∧ Below w.heap.size w w' := by
  have H9 := Lib.hid ((((HH.start w).alloc #[.slice (some ⟨w.heap.size + 1, 0, none⟩) 3 3, .slice (some ⟨w.heap.size + 1 + 1, 0, none⟩) 12 12, .int .i64 0] 24 rfl rfl).alloc #[.int .i64 1, .int .i64 1, .int .i64 1] 3 (b := w.heap.size + 1) (by simp) rfl).alloc #[.int .i64 9, .int .i64 4, .int .i64 7, .int .i64 10, .int .i64 1, .int .i64 8, .int .i64 11, .int .i64 2, .int .i64 5, .int .i64 0, .int .i64 3, .int .i64 6] 3 (b := w.heap.size + 1 + 1) (by simp) rfl)
  have hF0 := H9.out.cell (k := 0) (i := 0) rfl rfl
  have hF1 := H9.out.cell (k := 0) (i := 1) rfl rfl
  have hF2 := H9.out.cell (k := 0) (i := 2) rfl rfl
  have H8 := Lib.hid (And.intro hF0 (And.intro hF1 hF2))
  clear hF0 hF1 hF2
  go_enter Tryd.func38, Tryd.ntmps38
  go_wp2_with fail
  obtain ⟨hF0, hF1, hF2⟩ := H8.out
  refine bodyPost_ret (v := .agg #[.slice (some ⟨w.heap.size + 1, 0, none⟩) 3 3, .slice (some ⟨w.heap.size + 1 + 1, 0, none⟩) 12 12, .int .i64 0]) (by simp [results, Tryd.results38, go_sem, hF0, hF1, hF2]) rfl ?_
  exact ⟨_, _, 3, 12, rfl, (H9.out.row (k := 1) rfl).own (Nat.le_add_right _ 1), (H9.out.row (k := 2) rfl).own (Nat.le_add_right _ 2), H9.out.below⟩
set_option maxRecDepth 100000 in
set_option maxHeartbeats 2000000 in
theorem kink_any (w : World) : Calls Tryd.prog 39 #[] w fun e w' => ∃ a b c d, e = .returned (.agg #[.slice a 1 c, .slice b 4 d, .int .i64 0]) ∧ Own w' w.heap.size 3 a c (ints kkS) ∧ Own w' w.heap.size 3 b d (ints kkM) ∧ Below w.heap.size w w' := by
  have H9 := Lib.hid ((((HH.start w).alloc #[.slice (some ⟨w.heap.size + 1, 0, none⟩) 1 1, .slice (some ⟨w.heap.size + 1 + 1, 0, none⟩) 4 4, .int .i64 0] 24 rfl rfl).alloc #[.int .i64 1] 3 (b := w.heap.size + 1) (by simp) rfl).alloc #[.int .i64 1, .int .i64 0, .int .i64 3, .int .i64 2] 3 (b := w.heap.size + 1 + 1) (by simp) rfl)
  have hF0 := H9.out.cell (k := 0) (i := 0) rfl rfl
  have hF1 := H9.out.cell (k := 0) (i := 1) rfl rfl
  have hF2 := H9.out.cell (k := 0) (i := 2) rfl rfl
  have H8 := Lib.hid (And.intro hF0 (And.intro hF1 hF2))
  clear hF0 hF1 hF2
  go_enter Tryd.func39, Tryd.ntmps39
  go_wp2_with fail
  obtain ⟨hF0, hF1, hF2⟩ := H8.out
  refine bodyPost_ret (v := .agg #[.slice (some ⟨w.heap.size + 1, 0, none⟩) 1 1, .slice (some ⟨w.heap.size + 1 + 1, 0, none⟩) 4 4, .int .i64 0]) (by simp [results, Tryd.results39, go_sem, hF0, hF1, hF2]) rfl ?_
  exact ⟨_, _, 1, 4, rfl, (H9.out.row (k := 1) rfl).own (Nat.le_add_right _ 1), (H9.out.row (k := 2) rfl).own (Nat.le_add_right _ 2), H9.out.below⟩
set_option maxRecDepth 100000 in
set_option maxHeartbeats 4000000 in
theorem awake_any (w : World) (ht : Pow10 w) : Calls Tryd.prog 11 #[] w fun e w' => e = .returned (.bool true) ∧ Below w.heap.size w w' := by
  have HT : Hid (∀ W', Below w.heap.size w W' → Pow10 W') := Lib.hid fun W' h => ht.later h
  have HR : Hid (∀ W', Calls Tryd.prog 38 #[] W' fun e w' => ∃ a b c d, e = .returned (.agg #[.slice a 3 c, .slice b 12 d, .int .i64 0]) ∧ Own w' W'.heap.size 3 a c (ints tfS) ∧ Own w' W'.heap.size 3 b d (ints tfM) ∧ Below W'.heap.size W' w') := Lib.hid tref_any
  have HK : Hid (∀ W', Calls Tryd.prog 39 #[] W' fun e w' => ∃ a b c d, e = .returned (.agg #[.slice a 1 c, .slice b 4 d, .int .i64 0]) ∧ Own w' W'.heap.size 3 a c (ints kkS) ∧ Own w' W'.heap.size 3 b d (ints kkM) ∧ Below W'.heap.size W' w') := Lib.hid kink_any
  have HS : Hid (∀ W' a b c d, IntsAt W' a tfS → IntsAt W' b tfM → Calls Tryd.prog 15 #[.agg #[.slice a 3 c, .slice b 12 d, .int .i64 0]] W' fun e w' => e = .returned (.int .i64 3) ∧ Below W'.heap.size W' w') := Lib.hid fun W' a b c d h1 h2 => by
    have g := sym_yes tfS tfM 0 a b c d W' tf_valid (by decide) h1 h2
    rw [tf_sym] at g
    exact g
  have HY : Hid (∀ W' a b c d, Pow10 W' → IntsAt W' a tfS → IntsAt W' b tfM → Calls Tryd.prog 24 #[.agg #[.slice a 3 c, .slice b 12 d, .int .i64 0]] W' fun e w' => e = .returned (.string ⟨#[48, 44, 49, 44, 51, 44, 49, 44, 53, 44, 56, 44, 49, 49, 44, 54, 44, 49, 44, 57, 44, 48, 44, 51, 44, 49, 48, 44, 49, 44, 49, 44, 52, 44, 55, 44, 50]⟩) ∧ Below W'.heap.size W' w') := Lib.hid fun W' a b c d h h1 h2 => by
    have g := key_any tfS tfM 0 a b c d W' (by decide) (by decide) h h1 h2
    rw [tf_key] at g
    exact g
  have HZ : Hid (∀ W' a b c d, Pow10 W' → IntsAt W' a kkS → IntsAt W' b kkM → Calls Tryd.prog 24 #[.agg #[.slice a 1 c, .slice b 4 d, .int .i64 0]] W' fun e w' => e = .returned (.string ⟨#[48, 44, 49, 44, 49, 44, 49, 44, 49, 44, 48, 44, 51, 44, 50]⟩) ∧ Below W'.heap.size W' w') := Lib.hid fun W' a b c d h h1 h2 => by
    have g := key_any kkS kkM 0 a b c d W' (by decide) (by decide) h h1 h2
    rw [kk_key] at g
    exact g
  have H0 := Lib.hid (HH.start w)
  go_enter Tryd.func11, Tryd.ntmps11
  go_wp2_with fail
  refine (HR.out _).mono ?_
  rintro e w1 ⟨aK, bK, cK, dK, rfl, ho1, ho2, hb⟩
  have H1 := Lib.hid (H0.out.call hb)
  have O1 := Lib.hid (And.intro ho1.ints ho2.ints)
  clear ho1 ho2 hb H0
  go_wp2_with fail
  refine (HS.out _ aK bK cK dK O1.out.1 O1.out.2).mono ?_
  rintro e w2 ⟨rfl, hb⟩
  have H2 := Lib.hid (H1.out.call hb)
  clear hb H1 O1
  go_wp2_with fail
  refine (HR.out _).mono ?_
  rintro e w3 ⟨aJ, bJ, cJ, dJ, rfl, ho1, ho2, hb⟩
  have H3 := Lib.hid (H2.out.call hb)
  have O3 := Lib.hid (And.intro ho1.ints ho2.ints)
  clear ho1 ho2 hb H2
  go_wp2_with fail
  refine (HY.out _ aJ bJ cJ dJ (HT.out _ H3.out.below) O3.out.1 O3.out.2).mono ?_
  rintro e w4 ⟨rfl, hb⟩
  have H4 := Lib.hid (H3.out.call hb)
  clear hb H3 O3
  go_wp2_with fail
  refine (HK.out _).mono ?_
  rintro e w5 ⟨aI, bI, cI, dI, rfl, ho1, ho2, hb⟩
  have H5 := Lib.hid (H4.out.call hb)
  have O5 := Lib.hid (And.intro ho1.ints ho2.ints)
  clear ho1 ho2 hb H4
  go_wp2_with fail
  refine (HZ.out _ aI bI cI dI (HT.out _ H5.out.below) O5.out.1 O5.out.2).mono ?_
  rintro e w6 ⟨rfl, hb⟩
  have H6 := Lib.hid (H5.out.call hb)
  clear hb H5 O5
  go_wp2_with fail
  go_ret
  exact ⟨rfl, H6.out.below⟩
end Go.Proofs.YtmhhjchnjaefhaaDoor

namespace Go.Proofs.YtmhhjchnjaefhaaDoor
open Go Go.RowKit
theorem renum_yes (S M : List Int) (L : Int) (aS aM : Option Addr) (cS cM : Nat) (aO : Option Addr) (cO : Nat) (o : List Nat) (w : World) (hv : vldB S M L = true) (ho : o.Perm (List.range S.length)) (hS : IntsAt w aS S) (hM : IntsAt w aM M) (hO : IntsAt w aO (nats o)) :
    Calls Tryd.prog 21 #[.agg #[.slice aS S.length cS, .slice aM M.length cM, .int .i64 L], .slice aO (nats o).length cO] w fun e w' => ∃ a b c d, e = .returned (.tuple #[.agg #[.slice a S.length c, .slice b M.length d, .int .i64 L], .int .i64 0]) ∧ Own w' w.heap.size 3 a c (ints (partS S o)) ∧ Own w' w.heap.size 3 b d (ints (partM M o)) ∧ Below w.heap.size w w' := by
  have hs := vldB_shape hv
  have hl : o.length = S.length := by have := ho.length_eq; rwa [List.length_range] at this
  have hOl : (nats o).length = S.length := by rw [nats_length]; exact hl
  have g := renumber_same S M (nats o) L aS aM aO cS cM cO w hv hOl hS hM hO
  rw [hOl]
  refine g.mono ?_
  rintro e w' (⟨hn, _⟩ | ⟨_, a, b, c, d, rfl, h1, h2, hb⟩)
  · exact absurd ⟨hOl, perm_good ho⟩ hn
  · rw [rnS_part hl] at h1 ⊢
    rw [rnM_part hs.mates ho] at h2 ⊢
    refine ⟨a, b, c, d, ?_, h1, h2, hb⟩
    rw [partS_len, partM_len, hl, hs.len]
end Go.Proofs.YtmhhjchnjaefhaaDoor

namespace Go.Proofs.YtmhhjchnjaefhaaDoor
open Go Go.RowKit
set_option maxRecDepth 100000 in
set_option maxHeartbeats 1000000 in
theorem form_bad (S M : List Int) (L : Int) (aS aM : Option Addr) (cS cM : Nat) (w : World) (hSl : S.length ≤ 1000000000) (hMl : M.length ≤ 1000000000) (hv : vldB S M L = false) (hS : IntsAt w aS S) (hM : IntsAt w aM M) :
    Calls Tryd.prog 26 #[.agg #[.slice aS S.length cS, .slice aM M.length cM, .int .i64 L]] w fun e w' => e = .returned (.tuple #[.agg #[.slice none 0 0, .slice none 0 0, .int .i64 0], .int .i64 1]) ∧ Below w.heap.size w w' := by
  have HV : Hid (∀ W', Below w.heap.size w W' → Calls Tryd.prog 18 #[.agg #[.slice aS S.length cS, .slice aM M.length cM, .int .i64 L]] W' fun e w' => e = .returned (.bool false) ∧ Below W'.heap.size W' w') := Lib.hid fun W' h => by
    have g := valid_any S M L aS aM cS cM W' (by omega) (by omega) (hS.later h) (hM.later h)
    rw [hv] at g; exact g
  have H0 := Lib.hid (((HH.start w).alloc #[.slice aS S.length cS, .slice aM M.length cM, .int .i64 L] 24 rfl rfl).alloc #[.slice none 0 0, .slice none 0 0, .int .i64 0] 24 (b := w.heap.size + 1) (by simp) rfl)
  clear hv hS hM
  generalize S.length = n at *
  generalize M.length = N at *
  go_enter Tryd.func26, Tryd.ntmps26
  have k00 := H0.out.cell (k := 0) (i := 0) rfl rfl
  have k01 := H0.out.cell (k := 0) (i := 1) rfl rfl
  have k02 := H0.out.cell (k := 0) (i := 2) rfl rfl
  go_wp2_with fail
  clear k00 k01 k02
  refine (HV.out _ H0.out.below).mono ?_
  rintro e w1 ⟨rfl, hb⟩
  have H1 := Lib.hid (H0.out.call hb)
  clear hb H0 
  have k10 := H1.out.cell (k := 1) (i := 0) rfl rfl
  have k11 := H1.out.cell (k := 1) (i := 1) rfl rfl
  have k12 := H1.out.cell (k := 1) (i := 2) rfl rfl
  have f10 := H1.out.frozen (k := 1) rfl 0
  have f11 := H1.out.frozen (k := 1) rfl 1
  have f12 := H1.out.frozen (k := 1) rfl 2
  have H9 := (((H1.out.set (k := 1) rfl 0 (.slice none 0 0)).set (k := 1) rfl 1 (.slice none 0 0)).set (k := 1) rfl 2 (.int .i64 0))
  have hF10 := H9.cell (k := 1) (i := 0) rfl rfl
  have hF11 := H9.cell (k := 1) (i := 1) rfl rfl
  have hF12 := H9.cell (k := 1) (i := 2) rfl rfl
  have Hfin := Lib.hid H9
  clear H9
  go_wp2_with fail
  refine bodyPost_ret (v := .tuple #[.agg #[.slice none 0 0, .slice none 0 0, .int .i64 0], .int .i64 1]) (by simp [results, Tryd.results26, go_sem, hF10, hF11, hF12]) rfl ?_
  exact ⟨rfl, Hfin.out.below⟩
set_option maxRecDepth 100000 in
set_option maxHeartbeats 1000000 in
theorem form_yes (S M : List Int) (L : Int) (aS aM : Option Addr) (cS cM : Nat) (w : World) (hv : vldB S M L = true) (h20 : S.length ≤ 20) (hS : IntsAt w aS S) (hM : IntsAt w aM M) :
    Calls Tryd.prog 26 #[.agg #[.slice aS S.length cS, .slice aM M.length cM, .int .i64 L]] w fun e w' => ∃ a b c d, e = .returned (.tuple #[.agg #[.slice a S.length c, .slice b M.length d, .int .i64 L], .int .i64 0]) ∧ Own w' w.heap.size 3 a c (ints (fmS S M)) ∧ Own w' w.heap.size 3 b d (ints (fmM S M)) ∧ Below w.heap.size w w' := by
  have hs := vldB_shape hv
  have hMl := hs.len
  have HV : Hid (∀ W', Below w.heap.size w W' → Calls Tryd.prog 18 #[.agg #[.slice aS S.length cS, .slice aM M.length cM, .int .i64 L]] W' fun e w' => e = .returned (.bool true) ∧ Below W'.heap.size W' w') := Lib.hid fun W' h => by
    have g := valid_any S M L aS aM cS cM W' (by omega) (by omega) (hS.later h) (hM.later h)
    rw [hv] at g; exact g
  have HP : Hid (∀ W', Below w.heap.size w W' → Calls Tryd.prog 44 #[.agg #[.slice aS S.length cS, .slice aM M.length cM, .int .i64 L]] W' fun e w' => ∃ A C ys, e = .returned (.slice A ys.length C) ∧ Hid ((∃ o : List Nat, flY ys ys.length = nats o ∧ o.Perm (List.range S.length) ∧ partS S o = fmS S M ∧ partM M o = fmM S M) ∧ ys.length ≤ 20 ∧ ∀ i, i < ys.length → (ys.getD i ([], [], 0)).1.length ≤ 100 ∧ (ys.getD i ([], [], 0)).2.1.length ≤ 20 ∧ (flY ys i).length ≤ 400) ∧ RdD w' A ys ∧ Below W'.heap.size W' w') := Lib.hid fun W' h => by
    refine (cpieces_any S M L aS aM cS cM W' hv h20 (hS.later h) (hM.later h)).mono ?_
    rintro e w' ⟨A, C, ys, vs, rfl, hsr, ho, hc, hb⟩
    have hfew : ∀ p, p ∈ ys → p.1.length ≤ 100 ∧ p.2.1.length ≤ 20 := fun p hp => by
      have := piece_few (fun x hx => hs.mt_lt hx) hsr hp
      omega
    have hyl : ys.length ≤ 20 := by
      rw [hsr.perm.length_eq, List.length_map]; exact Nat.le_trans (grp_len M S.length) h20
    obtain ⟨f1, f2, f3⟩ := form_plain hs hsr
    refine ⟨A, C, ys, rfl, Lib.hid ⟨⟨flO ys, flY_all hsr, f1, f2, f3⟩, hyl, fun i hi => ?_⟩, hc.rd ho, hb⟩
    have hm : ys.getD i ([], [], 0) ∈ ys := by rw [List.getD_eq_getElem?_getD, List.getElem?_eq_getElem hi]; exact List.getElem_mem _
    have h3 := flY_few (fun p hp => (hfew p hp).2) i (Nat.le_of_lt hi)
    have h4 := Nat.mul_le_mul (show i ≤ 20 by omega) (Nat.le_refl 20)
    exact ⟨(hfew _ hm).1, (hfew _ hm).2, by omega⟩
  have HRn : Hid (∀ (o : List Nat) (aO : Option Addr) (cO : Nat) W', Below w.heap.size w W' → o.Perm (List.range S.length) → IntsAt W' aO (nats o) → Calls Tryd.prog 21 #[.agg #[.slice aS S.length cS, .slice aM M.length cM, .int .i64 L], .slice aO (nats o).length cO] W' fun e w' => ∃ a b c d, e = .returned (.tuple #[.agg #[.slice a S.length c, .slice b M.length d, .int .i64 L], .int .i64 0]) ∧ Own w' W'.heap.size 3 a c (ints (partS S o)) ∧ Own w' W'.heap.size 3 b d (ints (partM M o)) ∧ Below W'.heap.size W' w') := Lib.hid fun o aO cO W' h hp hO => renum_yes S M L aS aM cS cM aO cO o W' hv hp (hS.later h) (hM.later h) hO
  obtain ⟨i0, hi0, hz0, hz1, hz2⟩ := info_parts Tryd.info3
  have H0 := Lib.hid (((HH.start w).alloc #[.slice aS S.length cS, .slice aM M.length cM, .int .i64 L] 24 rfl rfl).alloc #[.slice none 0 0, .slice none 0 0, .int .i64 0] 24 (b := w.heap.size + 1) (by simp) rfl)
  clear hv hS hM hs hMl h20
  generalize fmS S M = FSz at *
  generalize fmM S M = FM at *
  generalize S.length = n at *
  generalize M.length = N at *
  go_enter Tryd.func26, Tryd.ntmps26
  have k00 := H0.out.cell (k := 0) (i := 0) rfl rfl
  have k01 := H0.out.cell (k := 0) (i := 1) rfl rfl
  have k02 := H0.out.cell (k := 0) (i := 2) rfl rfl
  go_wp2_with fail
  clear k00 k01 k02
  refine (HV.out _ H0.out.below).mono ?_
  rintro e w1 ⟨rfl, hb⟩
  have H1 := Lib.hid (H0.out.call hb)
  clear hb H0 HV
  have k00 := H1.out.cell (k := 0) (i := 0) rfl rfl
  have k01 := H1.out.cell (k := 0) (i := 1) rfl rfl
  have k02 := H1.out.cell (k := 0) (i := 2) rfl rfl
  go_wp2_with fail
  clear k00 k01 k02
  refine (HP.out _ H1.out.below).mono ?_
  rintro e w2 ⟨A, C, ys, rfl, HY, hrd, hb⟩
  have H2 := Lib.hid (H1.out.call hb)
  have HR := Lib.hid hrd
  have O2 : Hid (∀ W', Below w2.heap.size w2 W' → HH w W' [(w.heap.size, rowO 24 [.slice aS n cS, .slice aM N cM, .int .i64 L]), (w.heap.size + 1, rowO 24 [.slice none 0 0, .slice none 0 0, .int .i64 0])] []) := Lib.hid fun W' h => H2.out.call h
  clear hrd hb H1 HP
  have hyl : ys.length ≤ 20 := HY.out.2.1
  have HBw := Lib.hid H2.out.below
  have J0 : Hid (HH w2 w2 [] [⟨none, 0, 3, ints (flY ys 0)⟩]) := Lib.hid ((HH.start w2).addNil 3)
  clear H2
  go_wp2_with fail
  go_loopg [14, 4] ys.length (fun g v s4 wr => ∃ (i : Nat) (A2 : Option Addr) (d : Nat), i ≤ ys.length ∧ g = ys.length - i ∧ v = .int .i64 i ∧ s4 = .slice A2 (flY ys i).length d ∧ HH w2 wr [] [⟨A2, d, 3, ints (flY ys i)⟩])
  case atStart => exact ⟨0, none, 0, Nat.zero_le _, rfl, rfl, rfl, J0.out⟩
  case round =>
    obtain ⟨i, A2, d, hi, rfl, rfl, rfl, hh⟩ := hrel
    have Jr := Lib.hid hh
    clear hh J0
    by_cases hil : i < ys.length
    · obtain ⟨b, o, a, c, e, f, rfl, g1, g2, g3, h4, h5⟩ := HR.out i _ (getD_some (d := ([], [], 0)) hil)
      have h1 := (Jr.out.below.cell (p := ⟨b, o + i * 3, none⟩) (World.block_lt_of_cell? _ _ g1)).trans g1
      have h2 := (Jr.out.below.cell (p := ⟨b, o + i * 3 + 1, none⟩) (World.block_lt_of_cell? _ _ g2)).trans g2
      have h3 := (Jr.out.below.cell (p := ⟨b, o + i * 3 + 2, none⟩) (World.block_lt_of_cell? _ _ g3)).trans g3
      clear g1 g2 g3
      have HC2 := Lib.hid (flY_succ hil)
      obtain ⟨hb1, hb2, hb3⟩ := HY.out.2.2 i hil
      generalize ys.getD i ([], [], 0) = dd at *
      obtain ⟨Xd, Yd, r3⟩ := dd
      dsimp only at *
      have HI := Lib.hid h5
      clear h4 h5
      have hX : Hid ((ints Yd).length = Yd.length * 1) := Lib.hid (by rw [ints_length, Nat.mul_one])
      have Hcy : Hid ((ints (flY ys i)).length = (flY ys i).length) := Lib.hid (by rw [ints_length])
      have Hl2 : Hid ((flY ys (i + 1)).length = (flY ys i).length + Yd.length) := Lib.hid (by rw [HC2.out, List.length_append])
      generalize flY ys i = cy at *
      generalize cy.length = ly at *
      generalize Xd.length = l1 at *
      generalize Yd.length = l2 at *
      have K0 := Lib.hid (Jr.out.alloc #[.slice a l1 c, .slice e l2 f, .int .i64 r3] 51 (b := wr.heap.size) rfl rfl)
      go_upto_region 7 with fail
      clear h1 h2 h3 Jr
      generalize wr.alloc (.cells #[.slice a l1 c, .slice e l2 f, .int .i64 r3] 51) = v1 at *
      generalize wr.heap.size = q at *
      have y1 := K0.out.cell (k := 0) (i := 1) rfl rfl
      have Hus : Hid (VAt v1 e (ints Yd)) := Lib.hid (HI.out.later K0.out.below)
      have Hu1 : Hid (∀ u ∈ ints Yd, u.oneCell' = true) := Lib.hid (by
        intro u hu
        obtain ⟨x, _, rfl⟩ := List.mem_map.1 hu
        rfl)
      have Hl1 := Lib.hid K0.out.below.size
      have HO1 : Hid (Own v1 w2.heap.size 3 A2 (d * 1) (ints cy)) := Lib.hid (by rw [Nat.mul_one]; exact K0.out.sl (k := 0) rfl)
      have Hvl : Hid ((ints cy).length = ly * 1) := Lib.hid (by rw [Hcy.out, Nat.mul_one])
      have hdc : ly ≤ d := by have := HO1.out.size; have := Hvl.out; omega
      have Hzc : Hid ((Value.int .i64 0).cells.size = 1) := Lib.hid rfl
      go_wp2_with (with_reducible refine wpList_append_wide rfl (.tmp 18) (.tmp 20) 22 22 rfl w2.heap.size 3 i0 _ 8 1 Tryd.underlying22 Tryd.underlying22 hi0 hz0 hz1 (by decide) hz2 Hzc.out A2 ly d (ints cy) rfl Hvl.out hdc HO1.out e l2 f (ints Yd) rfl hX.out Hus.out Hu1.out (by omega) (by omega) Hl1.out ?_; intro A7 e7 w8 hle hO7 hT7 hA7; have HO7 := Lib.hid hO7; have HT7 := Lib.hid hT7; have HA7 := Lib.hid hA7; clear hO7 hT7 hA7)
      have J9 : Hid (HH w2 w8 [] [⟨A7, e7, 3, ints (flY ys (i + 1))⟩]) := Lib.hid (by
        have ho := HO7.out
        rw [Nat.mul_one] at ho
        have h := K0.out.grow (k := 0) rfl ho HT7.out HA7.out
        have e : ints cy ++ ints Yd = ints (flY ys (i + 1)) := by rw [HC2.out]; simp only [ints, List.map_append]
        rw [← e]
        exact h.forgetK (List.nil_sublist _))
      go_roundg (ys.length - (i + 1))
      case measure => omega
      case rel => exact ⟨i + 1, A7, e7, by omega, rfl, by go_num, by rw [Hl2.out], J9.out⟩
    · obtain rfl : i = ys.length := by omega
      obtain ⟨o, e1, hp, e2, e3⟩ := HY.out.1
      rw [e1] at Jr
      rw [e1]
      have HRx := Lib.hid (HRn.out o A2 d wr (O2.out _ Jr.out.below).below hp (Jr.out.sl (k := 0) rfl).ints)
      have Hw := Lib.hid (O2.out _ Jr.out.below)
      rw [e2, e3] at HRx
      clear e1 e2 e3 hp HRn HY
      generalize (nats o).length = no at *
      have k0 := Hw.out.cell (k := 0) (i := 0) rfl rfl
      have k1 := Hw.out.cell (k := 0) (i := 1) rfl rfl
      have k2 := Hw.out.cell (k := 0) (i := 2) rfl rfl
      go_wp2_with fail
      clear k0 k1 k2
      refine HRx.out.mono ?_
      rintro e w5 ⟨a5, b5, c5, d5, rfl, ho1, ho2, hb⟩
      have H5 := Lib.hid (Hw.out.call hb)
      have HO5 := Lib.hid (And.intro ho1 ho2)
      have HS5 : Hid (w.heap.size + 1 < wr.heap.size) := Lib.hid (Hw.out.lt (x := (w.heap.size + 1, rowO 24 [.slice none 0 0, .slice none 0 0, .int .i64 0])) (by simp))
      clear ho1 ho2 hb Hw Jr
      have f0 := H5.out.frozen (k := 1) rfl 0
      have f1 := H5.out.frozen (k := 1) rfl 1
      have f2 := H5.out.frozen (k := 1) rfl 2
      have y0 := H5.out.cell (k := 1) (i := 0) rfl rfl
      have y1 := H5.out.cell (k := 1) (i := 1) rfl rfl
      have y2 := H5.out.cell (k := 1) (i := 2) rfl rfl
      have H9 := ((H5.out.set (k := 1) rfl 0 (.slice a5 n c5)).set (k := 1) rfl 1 (.slice b5 N d5)).set (k := 1) rfl 2 (.int .i64 L)
      have hF0 := H9.cell (k := 1) (i := 0) rfl rfl
      have hF1 := H9.cell (k := 1) (i := 1) rfl rfl
      have hF2 := H9.cell (k := 1) (i := 2) rfl rfl
      have Hfin := Lib.hid H9
      have Hko : Hid (∀ (a : Option Addr) (c : Nat) (xs : List Int), Own w5 wr.heap.size 3 a c (ints xs) → Own (((w5.setCell ⟨w.heap.size + 1, 0, none⟩ (.slice a5 n c5)).setCell ⟨w.heap.size + 1, 1, none⟩ (.slice b5 N d5)).setCell ⟨w.heap.size + 1, 2, none⟩ (.int .i64 L)) w.heap.size 3 a c (ints xs)) := Lib.hid fun a c xs h => (h.kept fun x hx => by
        have h1 := (h.lt hx).1
        have h2 := HS5.out
        rw [Below.heap_setCell _ _ _ _ (by show x.block ≠ w.heap.size + 1; omega), Below.heap_setCell _ _ _ _ (by show x.block ≠ w.heap.size + 1; omega), Below.heap_setCell _ _ _ _ (by show x.block ≠ w.heap.size + 1; omega)]).mono (by have := HS5.out; omega)
      clear H9
      go_wp2_with fail
      refine bodyPost_ret (v := .tuple #[.agg #[.slice a5 n c5, .slice b5 N d5, .int .i64 L], .int .i64 0]) (by simp [results, Tryd.results26, go_sem, hF0, hF1, hF2]) rfl ?_
      exact ⟨a5, b5, c5, d5, rfl, Hko.out _ _ _ HO5.out.1, Hko.out _ _ _ HO5.out.2, Hfin.out.below⟩
end Go.Proofs.YtmhhjchnjaefhaaDoor

namespace Go.Proofs.YtmhhjchnjaefhaaDoor
open Go Go.RowKit
/-- More than 20 crossings or 80 half-edges. -/
def greatB (S M : List Int) (_ : Int) : Bool := decide (20 < S.length) || decide (80 < M.length)
theorem greatB_no {S M : List Int} {L : Int} (h : greatB S M L = false) : S.length ≤ 20 ∧ M.length ≤ 80 := by
  unfold greatB at h
  simp only [Bool.or_eq_false_iff, decide_eq_false_iff_not] at h
  omega
set_option maxRecDepth 100000 in
set_option maxHeartbeats 1000000 in
theorem great_a (S M : List Int) (L : Int) (aS aM : Option Addr) (cS cM : Nat) (w : World) (h : 20 < S.length) :
    Calls Tryd.prog 12 #[.agg #[.slice aS S.length cS, .slice aM M.length cM, .int .i64 L]] w fun e w' => e = .returned (.bool true) ∧ Below w.heap.size w w' := by
  have t1 : decide ((20 : Int) < (S.length : Int)) = true := decide_eq_true (by omega)
  have t2 : decide (20 < S.length) = true := decide_eq_true h
  have H0 := Lib.hid ((HH.start w).alloc #[.slice aS S.length cS, .slice aM M.length cM, .int .i64 L] 24 rfl rfl)
  clear h
  generalize S.length = n at *
  generalize M.length = N at *
  go_enter Tryd.func12, Tryd.ntmps12
  have k00 := H0.out.cell (k := 0) (i := 0) rfl rfl
  have k01 := H0.out.cell (k := 0) (i := 1) rfl rfl
  have k02 := H0.out.cell (k := 0) (i := 2) rfl rfl
  go_wp2_with fail
  go_ret
  exact ⟨rfl, H0.out.below⟩
set_option maxRecDepth 100000 in
set_option maxHeartbeats 1000000 in
theorem great_b (S M : List Int) (L : Int) (aS aM : Option Addr) (cS cM : Nat) (w : World) (h : S.length ≤ 20) (h2 : 80 < M.length) :
    Calls Tryd.prog 12 #[.agg #[.slice aS S.length cS, .slice aM M.length cM, .int .i64 L]] w fun e w' => e = .returned (.bool true) ∧ Below w.heap.size w w' := by
  have t1 : decide ((20 : Int) < (S.length : Int)) = false := decide_eq_false (by omega)
  have t2 : decide (20 < S.length) = false := decide_eq_false (by omega)
  have t3 : decide ((80 : Int) < (M.length : Int)) = true := decide_eq_true (by omega)
  have t4 : decide (80 < M.length) = true := decide_eq_true h2
  have H0 := Lib.hid ((HH.start w).alloc #[.slice aS S.length cS, .slice aM M.length cM, .int .i64 L] 24 rfl rfl)
  clear h h2
  generalize S.length = n at *
  generalize M.length = N at *
  go_enter Tryd.func12, Tryd.ntmps12
  have k00 := H0.out.cell (k := 0) (i := 0) rfl rfl
  have k01 := H0.out.cell (k := 0) (i := 1) rfl rfl
  have k02 := H0.out.cell (k := 0) (i := 2) rfl rfl
  go_wp2_with fail
  go_ret
  exact ⟨rfl, H0.out.below⟩
set_option maxRecDepth 100000 in
set_option maxHeartbeats 1000000 in
theorem great_c (S M : List Int) (L : Int) (aS aM : Option Addr) (cS cM : Nat) (w : World) (h : S.length ≤ 20) (h2 : M.length ≤ 80) :
    Calls Tryd.prog 12 #[.agg #[.slice aS S.length cS, .slice aM M.length cM, .int .i64 L]] w fun e w' => e = .returned (.bool false) ∧ Below w.heap.size w w' := by
  have t1 : decide ((20 : Int) < (S.length : Int)) = false := decide_eq_false (by omega)
  have t2 : decide (20 < S.length) = false := decide_eq_false (by omega)
  have t3 : decide ((80 : Int) < (M.length : Int)) = false := decide_eq_false (by omega)
  have t4 : decide (80 < M.length) = false := decide_eq_false (by omega)
  have H0 := Lib.hid ((HH.start w).alloc #[.slice aS S.length cS, .slice aM M.length cM, .int .i64 L] 24 rfl rfl)
  clear h h2
  generalize S.length = n at *
  generalize M.length = N at *
  go_enter Tryd.func12, Tryd.ntmps12
  have k00 := H0.out.cell (k := 0) (i := 0) rfl rfl
  have k01 := H0.out.cell (k := 0) (i := 1) rfl rfl
  have k02 := H0.out.cell (k := 0) (i := 2) rfl rfl
  go_wp2_with fail
  go_ret
  exact ⟨rfl, H0.out.below⟩
theorem great_any (S M : List Int) (L : Int) (aS aM : Option Addr) (cS cM : Nat) (w : World) : Calls Tryd.prog 12 #[.agg #[.slice aS S.length cS, .slice aM M.length cM, .int .i64 L]] w fun e w' => e = .returned (.bool (greatB S M L)) ∧ Below w.heap.size w w' := by
  unfold greatB
  by_cases h : 20 < S.length
  · rw [decide_eq_true h, Bool.true_or]; exact great_a S M L aS aM cS cM w h
  · rw [decide_eq_false h, Bool.false_or]
    by_cases h2 : 80 < M.length
    · rw [decide_eq_true h2]; exact great_b S M L aS aM cS cM w (by omega) h2
    · rw [decide_eq_false h2]; exact great_c S M L aS aM cS cM w (by omega) (by omega)
end Go.Proofs.YtmhhjchnjaefhaaDoor

namespace Go.Proofs.YtmhhjchnjaefhaaDoor
open Go Go.RowKit
theorem fm_len {S M : List Int} {L : Int} (hv : vldB S M L = true) : (fmS S M).length = S.length ∧ (fmM S M).length = M.length := by
  have hs := vldB_shape hv
  obtain ⟨ys, hy⟩ := srt_some ((grpOf M S.length).map (pieOf S M S.length))
  obtain ⟨f1, f2, f3⟩ := form_plain hs hy
  have hl : (flO ys).length = S.length := by have := f1.length_eq; rwa [List.length_range] at this
  exact ⟨by rw [← f2, partS_len, hl], by rw [← f3, partM_len, hl, hs.len]⟩
end Go.Proofs.YtmhhjchnjaefhaaDoor

