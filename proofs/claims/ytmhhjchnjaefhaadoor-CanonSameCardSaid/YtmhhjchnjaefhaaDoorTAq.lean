/- The reference: Graph, the parts as lists; Part, a part of a diagram by itself. The examples of the chapter, walked: Trefoil, Kink, awake of law05. law05's great: whether a diagram is too great. Plain: the reference's roots: one crossing for each piece, in the order of the code. The reference's In and Factor. -/
import Derived.WalkKit
import Derived.WalkSpells
import Derived.WalkLawsBesides
import Derived.Deep.AppendSrc
import Derived.Deep.LoopGhost
import Derived.Deep.QuietTactic
import Derived.Deep.RegionWith
import Derived.Deep.DeepMust
import Derived.Deep.DeepFit
import Derived.BigQuiet
import Derived.Lib.Hide
import Derived.Outline
import Derived.Test.YtmhhjchnjaefhaaDoorProg
import Derived.Deep.Matrix
import Derived.Deep.DeepCutAuto
import Derived.Deep.RegionLaw
import Derived.Deep.RegionHeld3
import Derived.Lib.SliceRun
import Derived.Shelf.Strings.Builder1
import Derived.Shelf.Small.Wraps
import Derived.Shelf.Strings.BuilderF
import Derived.Shelf.Strings.BuilderK
import Derived.Shelf.Strconv.Itoa0
import Derived.Shelf.Strconv.Itoa1
import Derived.Shelf.LaysM
import Derived.Shelf.Strconv.Itoa2
import Derived.Shelf.Strconv.Itoa3
import Derived.Shelf.Slices.Equal
import Derived.Ground.Names2Prog
import Derived.Shelf.Slices.Clone
import Derived.Shelf.Slices.SearchI
import Derived.Shelf.Slices.Empties2
import Derived.Ground.SlgnProg
import Derived.Shelf.SlicesE.Clone
import Derived.Sort.OwnSortedInts
import Derived.Shelf.Small.Bits
import Derived.Shelf.Sort.Plain
import Derived.Shelf.Slices.Turned
import Derived.Shelf.Slices.CompactI
import Derived.Shelf.Slices.Cells
import Derived.Shelf.Slices.In.SortNone
import Derived.Lib.AppendZeros
import Derived.Deep.RegionHeld
import Derived.Lib.Builder
import Derived.Lib.AppendStr
import Derived.Lib.Walk
import Derived.Laws.Externs
import Derived.Lib.AppendIntMem
import Derived.Test.YtmhhjchnjaefhaaDoorTAa
import Derived.Test.YtmhhjchnjaefhaaDoorTAc
import Derived.Test.YtmhhjchnjaefhaaDoorTAd
import Derived.Test.YtmhhjchnjaefhaaDoorTAe
import Derived.Test.YtmhhjchnjaefhaaDoorTAf
import Derived.Test.YtmhhjchnjaefhaaDoorTAg
import Derived.Test.YtmhhjchnjaefhaaDoorTAh
import Derived.Test.YtmhhjchnjaefhaaDoorTAi
import Derived.Test.YtmhhjchnjaefhaaDoorTAj
import Derived.Test.YtmhhjchnjaefhaaDoorTAp
import Derived.Test.YtmhhjchnjaefhaaDoorTAb
import Derived.Test.YtmhhjchnjaefhaaDoorTAk
import Derived.Test.YtmhhjchnjaefhaaDoorTAl
import Derived.Test.YtmhhjchnjaefhaaDoorTAm
import Derived.Test.YtmhhjchnjaefhaaDoorTAn
import Derived.Test.YtmhhjchnjaefhaaDoorTAo
namespace Go.Proofs.YtmhhjchnjaefhaaDoor
open Go Go.RowKit
theorem nthO_last {α : Type} (l : List α) (x : α) : nthO (l ++ [x]) l.length = some x := by
  induction l with
  | nil => rfl
  | cons y l ih => exact ih
theorem setO_last {α : Type} (l : List α) (x y : α) : setO (l ++ [x]) l.length y = l ++ [y] := by
  induction l with
  | nil => rfl
  | cons z l ih => show z :: setO (l ++ [x]) l.length y = z :: (l ++ [y]); rw [ih]
/-- The value of a slice that the call owns. -/
def slV (d : SlO) : Value := .slice d.a d.vs.length d.c
/-- The slices ms hold the rows T. -/
def Rws (ms : List SlO) (T : List (List Int)) : Prop := ms.length = T.length ∧ ∀ (m : Nat) (d : SlO), ms[m]? = some d → d.E = 3 ∧ d.vs = ints (T.getD m [])
theorem Rws.nil : Rws [] [] := ⟨rfl, fun m d h => by simp at h⟩
theorem Rws.snoc {ms : List SlO} {T : List (List Int)} (h : Rws ms T) (a : Option Addr) (c : Nat) (row : List Int) : Rws (ms ++ [⟨a, c, 3, ints row⟩]) (T ++ [row]) := by
  refine ⟨by rw [List.length_append, List.length_append, h.1]; rfl, fun m d hd => ?_⟩
  rcases Nat.lt_or_ge m ms.length with g | g
  · rw [List.getElem?_append_left g] at hd
    obtain ⟨h1, h2⟩ := h.2 m d hd
    refine ⟨h1, ?_⟩
    rw [h2, List.getD_eq_getElem?_getD, List.getD_eq_getElem?_getD, List.getElem?_append_left (by rw [← h.1]; exact g)]
  · have hm : m < (ms ++ [(⟨a, c, 3, ints row⟩ : SlO)]).length := (List.getElem?_eq_some_iff.1 hd).1
    rw [List.length_append, List.length_singleton] at hm
    obtain rfl : m = ms.length := by omega
    rw [List.getElem?_append_right (Nat.le_refl _), Nat.sub_self] at hd
    cases hd
    refine ⟨rfl, ?_⟩
    rw [h.1, List.getD_eq_getElem?_getD, List.getElem?_append_right (Nat.le_refl _), Nat.sub_self]; rfl
theorem Rws.owned {w0 w : World} {l : Kn} {ms : List SlO} {T : List (List Int)} {A : Option Addr} {E : Nat} (h : Rws ms T) (hh : HH w0 w l (⟨A, E, 22, ms.map slV⟩ :: ms)) : OwnRows w w0.heap.size A E T := by
  refine ⟨ms.map slV, hh.own _ List.mem_cons_self, by rw [List.length_map]; exact h.1, fun i v row h1 h3 => ?_⟩
  have hi := (List.getElem?_eq_some_iff.1 h3).1
  have hil : i < ms.length := by rw [h.1]; exact hi
  have hd := List.getElem?_eq_getElem (l := ms) (i := i) hil
  rw [List.getElem?_map, hd] at h1
  obtain ⟨e1, e2⟩ := h.2 i _ hd
  have ho := hh.own _ (List.mem_cons_of_mem _ (List.mem_of_getElem? hd))
  rw [List.getD_eq_getElem?_getD, h3] at e2
  have e2 : ms[i].vs = ints row := e2
  have hv : slV ms[i] = v := Option.some.inj h1
  rw [e1, e2] at ho
  refine ⟨_, _, ?_, ho⟩
  rw [← hv]
  unfold slV
  rw [e2, ints_length]
/-- The crossings below b with label c. -/
def rgC (lb : List Int) (c b : Nat) : List Nat := (List.range b).filter fun d => decide (nth lb d = (c : Int))
def rgT (lb : List Int) (n k : Nat) : List (List Int) := ((List.range k).filter fun c => decide (nth lb c = (c : Int))).map fun c => nats (rgC lb c n)
theorem rgC_yes {lb : List Int} {c b : Nat} (h : nth lb b = (c : Int)) : rgC lb c (b + 1) = rgC lb c b ++ [b] := by
  unfold rgC; rw [List.range_succ, List.filter_append]; simp [h]
theorem rgC_no {lb : List Int} {c b : Nat} (h : nth lb b ≠ (c : Int)) : rgC lb c (b + 1) = rgC lb c b := by
  unfold rgC; rw [List.range_succ, List.filter_append]; simp [h]
theorem rgC_len (lb : List Int) (c b : Nat) : (rgC lb c b).length ≤ b := by
  have := List.length_filter_le (fun d => decide (nth lb d = (c : Int))) (List.range b)
  rwa [List.length_range] at this
theorem rgT_yes {lb : List Int} {n k : Nat} (h : nth lb k = (k : Int)) : rgT lb n (k + 1) = rgT lb n k ++ [nats (rgC lb k n)] := by
  unfold rgT; rw [List.range_succ, List.filter_append, List.map_append]; simp [h]
theorem rgT_no {lb : List Int} {n k : Nat} (h : nth lb k ≠ (k : Int)) : rgT lb n (k + 1) = rgT lb n k := by
  unfold rgT; rw [List.range_succ, List.filter_append, List.map_append]; simp [h]
theorem rgT_len (lb : List Int) (n k : Nat) : (rgT lb n k).length ≤ k := by
  unfold rgT
  rw [List.length_map]
  have := List.length_filter_le (fun c => decide (nth lb c = (c : Int))) (List.range k)
  rwa [List.length_range] at this
theorem rgT_all {M : List Int} {n : Nat} (hm : MateOk M n) : rgT (rlabel M n) n n = (grpOf M n).map nats := by
  rw [← rgroups_eq hm, List.map_map]; rfl
set_option maxRecDepth 100000 in
set_option maxHeartbeats 4000000 in
theorem rgraph_any (M : List Int) (n : Nat) (aM : Option Addr) (cM : Nat) (w : World) (hn : n ≤ 64) (hl : M.length = 4 * n) (hm : MateOk M n) (hM : IntsAt w aM M) :
    Calls Tryd.prog 70 #[.slice aM M.length cM] w fun e w' => ∃ a c, e = .returned (.slice a (grpOf M n).length c) ∧ OwnRows w' w.heap.size a c ((grpOf M n).map nats) ∧ Below w.heap.size w w' := by
  have HLb : Hid (∀ W', Below w.heap.size w W' → Calls Tryd.prog 41 #[.slice aM M.length cM] W' fun e w' => ∃ a c, e = .returned (.slice a n c) ∧ Below W'.heap.size W' w' ∧ Own w' W'.heap.size 3 a c (ints (rlabel M n))) := Lib.hid fun W' h => rlabel_any M n aM cM W' (by omega) hl hm (hM.later h)
  have hlen : (rlabel M n).length = n := rlPass_len M n n
  have HG : Hid (rgT (rlabel M n) n n = (grpOf M n).map nats) := Lib.hid (rgT_all hm)
  have HGl : Hid ((grpOf M n).length = (rgT (rlabel M n) n n).length) := Lib.hid (by rw [HG.out, List.length_map])
  rw [← HG.out, HGl.out]
  obtain ⟨i0, hi0, hz0, hz1, hz2⟩ := info_parts Tryd.info3
  obtain ⟨i1, hi1, hy0, hy1, hy2⟩ := info_parts Tryd.info22
  have H0 := Lib.hid (HH.start w)
  clear hl hm hM HG HGl
  generalize rlabel M n = lb at *
  have Htl := Lib.hid (rgT_len lb n)
  have Hcl := Lib.hid (rgC_len lb)
  go_enter Tryd.func70, Tryd.ntmps70
  go_wp2_with fail
  refine (HLb.out _ (Below.refl _ _)).mono ?_
  rintro e w1 ⟨aL, cL, rfl, hb, ho⟩
  have H1 := Lib.hid ((H0.out.addSl hb ho).addNil 22)
  clear hb ho H0 HLb
  go_wp2_with fail
  go_loopg [5, 4] n (fun g v s4 wr => ∃ (c : Nat) (ms : List SlO) (A : Option Addr) (C k : Nat), c ≤ n ∧ g = n - c ∧ v = .int .i64 c ∧ s4 = .slice A k C ∧ k ≤ c ∧ Hid (Rws ms (rgT lb n c) ∧ k = ms.length) ∧ HH w wr [] (⟨aL, cL, 3, ints lb⟩ :: ⟨A, C, 22, ms.map slV⟩ :: ms))
  case atStart => exact ⟨0, [], none, 0, 0, Nat.zero_le _, rfl, rfl, rfl, Nat.le_refl _, Lib.hid ⟨Rws.nil, rfl⟩, H1.out⟩
  case round =>
    obtain ⟨c, ms, A, C, k, hc, rfl, rfl, rfl, hkc, Hr, hh⟩ := hrel
    have Hh := Lib.hid hh
    clear hh H1
    by_cases hcn : c < n
    · obtain ⟨bL, oL, rfl, _, _, hcL, _⟩ := (Hh.out.sl (k := 0) rfl).open (by show 0 < (ints lb).length; rw [ints_length]; omega)
      have hcx := hcL c _ (ints_get lb c (by omega))
      clear hcL
      by_cases hlc : nth lb c = (c : Int)
      · have t1 : (nth lb c != (c : Int)) = false := by rw [hlc]; simp
        have HT := Lib.hid (rgT_yes (n := n) hlc)
        have H2 := Lib.hid (Hh.out.addNil 3)
        generalize nth lb c = lc at *
        clear hlc Hh
        go_wp2_with fail
        clear hcx t1
        go_loopg [7, 6] n (fun g v s6 wx => ∃ (b : Nat) (a : Option Addr) (cc j : Nat), b ≤ n ∧ g = n - b ∧ v = .int .i64 b ∧ s6 = .slice a j cc ∧ j ≤ b ∧ Hid (j = (rgC lb c b).length) ∧ HH w wx [] (⟨some ⟨bL, oL, none⟩, cL, 3, ints lb⟩ :: ⟨A, C, 22, ms.map slV⟩ :: (ms ++ [⟨a, cc, 3, ints (nats (rgC lb c b))⟩])))
        case atStart => exact ⟨0, none, 0, 0, Nat.zero_le _, rfl, rfl, rfl, Nat.le_refl _, Lib.hid rfl, H2.out⟩
        case round =>
          obtain ⟨b, a, cc, j, hb, rfl, rfl, rfl, hjb, Hj, hh⟩ := hrel
          have Hh := Lib.hid hh
          clear hh H2
          by_cases hbn : b < n
          · obtain ⟨bL', oL', e, _, _, hcL, _⟩ := (Hh.out.sl (k := 0) rfl).open (by show 0 < (ints lb).length; rw [ints_length]; omega)
            cases e
            have hcx := hcL b _ (ints_get lb b (by omega))
            clear hcL
            by_cases hlb : nth lb b = (c : Int)
            · have t1 : (nth lb b == (c : Int)) = true := by rw [hlb]; simp
              have HC := Lib.hid (rgC_yes hlb)
              generalize nth lb b = lv at *
              clear hlb
              have Ha := Lib.hid (Hh.out.call ((Below.refl _ _).alloc (Nat.le_refl _) (.cells #[.int .i64 (b : Int)] 3)))
              have Hc0 : Hid ((wr.alloc (.cells #[.int .i64 (b : Int)] 3)).cell? ⟨wr.heap.size, 0, none⟩ = some (.int .i64 (b : Int))) := Lib.hid ((Row.new wr #[.int .i64 (b : Int)] 3).cell 0)
              have Hl1 := Lib.hid Ha.out.below.size
              have Hnt : Hid ((ints (nats (rgC lb c b))).length = j) := Lib.hid (by rw [ints_length, nats_length, Hj.out])
              have Hsl : Hid (Own (wr.alloc (.cells #[.int .i64 (b : Int)] 3)) w.heap.size 3 a cc (ints (nats (rgC lb c b)))) := Lib.hid (Ha.out.sl (k := ms.length + 2) (nthO_last ms _))
              have HGr : Hid (∀ (A7 : Option Addr) (e7 : Nat) (w7 : World), Own w7 w.heap.size 3 A7 e7 (ints (nats (rgC lb c b)) ++ [.int .i64 (b : Int)]) → Turned (wr.alloc (.cells #[.int .i64 (b : Int)] 3)) w7 a → (∀ x, A7 = some x → ((wr.alloc (.cells #[.int .i64 (b : Int)] 3)).heap.size ≤ x.block ∨ ∃ y, a = some y ∧ x = y)) →
                  HH w w7 [] (⟨some ⟨bL, oL, none⟩, cL, 3, ints lb⟩ :: ⟨A, C, 22, ms.map slV⟩ :: (ms ++ [⟨A7, e7, 3, ints (nats (rgC lb c (b + 1)))⟩]))) := Lib.hid fun A7 e7 w7 h1 h2 h3 => by
                have h := Ha.out.grow (k := ms.length + 2) (nthO_last ms _) h1 h2 h3
                have e := setO_last ms (⟨a, cc, 3, ints (nats (rgC lb c b))⟩ : SlO) ⟨A7, e7, 3, ints (nats (rgC lb c b)) ++ [.int .i64 (b : Int)]⟩
                rw [HC.out, ← nats_snoc, ← ints_snoc, ← e]
                exact h
              go_wp2_with (with_reducible refine wpList_append_one rfl (.tmp 34) (.tmp 36) 22 rfl w.heap.size 3 i0 _ 8 Tryd.underlying22 hi0 hz0 hz1 hz2 rfl a j cc (ints (nats (rgC lb c b))) rfl Hnt.out Hsl.out ⟨wr.heap.size, 0, none⟩ 1 (.int .i64 (b : Int)) rfl Hc0.out rfl (by omega) (by omega) Hl1.out ?_; intro A7 e7 w7 hO7 hT7 hA7; have H7 := Lib.hid (HGr.out A7 e7 w7 hO7 hT7 hA7); clear hO7 hT7 hA7)
              go_roundg (n - (b + 1))
              case measure => omega
              case rel => exact ⟨b + 1, A7, e7, j + 1, by omega, rfl, by go_num, rfl, by omega, Lib.hid (by rw [HC.out, List.length_append, Hj.out]; rfl), H7.out⟩
            · have t1 : (nth lb b == (c : Int)) = false := by simpa using hlb
              have HC := Lib.hid (rgC_no hlb)
              generalize nth lb b = lv at *
              clear hlb
              go_wp2_with fail
              go_roundg (n - (b + 1))
              case measure => omega
              case rel => exact ⟨b + 1, a, cc, j, by omega, rfl, by go_num, rfl, by omega, Lib.hid (by rw [HC.out]; exact Hj.out), by rw [HC.out]; exact Hh.out⟩
          · obtain rfl : b = n := by omega
            have Hr2 : Hid (Rws (ms ++ [⟨a, cc, 3, ints (nats (rgC lb c b))⟩]) (rgT lb b (c + 1))) := Lib.hid (by rw [HT.out]; exact Hr.out.1.snoc a cc _)
            have Ha := Lib.hid (Hh.out.call ((Below.refl _ _).alloc (Nat.le_refl _) (.cells #[.slice a j cc] 22)))
            have Hc0 : Hid ((wr.alloc (.cells #[.slice a j cc] 22)).cell? ⟨wr.heap.size, 0, none⟩ = some (.slice a j cc)) := Lib.hid ((Row.new wr #[.slice a j cc] 22).cell 0)
            have Hl1 := Lib.hid Ha.out.below.size
            have Hnt : Hid ((ms.map slV).length = k) := Lib.hid (by rw [List.length_map, Hr.out.2])
            have Hsl : Hid (Own (wr.alloc (.cells #[.slice a j cc] 22)) w.heap.size 22 A C (ms.map slV)) := Lib.hid (Ha.out.sl (k := 1) rfl)
            have HGr : Hid (∀ (A7 : Option Addr) (e7 : Nat) (w7 : World), Own w7 w.heap.size 22 A7 e7 (ms.map slV ++ [.slice a j cc]) → Turned (wr.alloc (.cells #[.slice a j cc] 22)) w7 A → (∀ x, A7 = some x → ((wr.alloc (.cells #[.slice a j cc] 22)).heap.size ≤ x.block ∨ ∃ y, A = some y ∧ x = y)) →
                HH w w7 [] (⟨some ⟨bL, oL, none⟩, cL, 3, ints lb⟩ :: ⟨A7, e7, 22, (ms ++ [(⟨a, cc, 3, ints (nats (rgC lb c b))⟩ : SlO)]).map slV⟩ :: (ms ++ [⟨a, cc, 3, ints (nats (rgC lb c b))⟩]))) := Lib.hid fun A7 e7 w7 h1 h2 h3 => by
              have h := Ha.out.grow (k := 1) rfl h1 h2 h3
              have e : (ms ++ [(⟨a, cc, 3, ints (nats (rgC lb c b))⟩ : SlO)]).map slV = ms.map slV ++ [.slice a j cc] := by
                rw [List.map_append]
                show ms.map slV ++ [.slice a (ints (nats (rgC lb c b))).length cc] = _
                rw [ints_length, nats_length, ← Hj.out]
              rw [e]
              exact h
            go_wp2_with (with_reducible refine wpList_append_one rfl (.tmp 38) (.tmp 40) 41 rfl w.heap.size 22 i1 _ 24 Tryd.underlying41 hi1 hy0 hy1 hy2 rfl A k C (ms.map slV) rfl Hnt.out Hsl.out ⟨wr.heap.size, 0, none⟩ 1 (.slice a j cc) rfl Hc0.out rfl (by omega) (by omega) Hl1.out ?_; intro A7 e7 w7 hO7 hT7 hA7; have H7 := Lib.hid (HGr.out A7 e7 w7 hO7 hT7 hA7); clear hO7 hT7 hA7)
            go_roundg (b - (c + 1))
            case measure => omega
            case rel => exact ⟨c + 1, _, A7, e7, k + 1, by omega, rfl, by go_num, rfl, by omega, Lib.hid ⟨Hr2.out, by rw [List.length_append, Hr.out.2]; rfl⟩, H7.out⟩
      · have t1 : (nth lb c != (c : Int)) = true := by simpa using hlc
        have HT := Lib.hid (rgT_no (n := n) hlc)
        generalize nth lb c = lc at *
        clear hlc
        go_wp2_with fail
        go_roundg (n - (c + 1))
        case measure => omega
        case rel => exact ⟨c + 1, ms, A, C, k, by omega, rfl, by go_num, rfl, by omega, Lib.hid (by rw [HT.out]; exact Hr.out), Hh.out⟩
    · obtain rfl : c = n := by omega
      go_wp2_with fail
      go_ret
      exact ⟨A, C, by rw [← Hr.out.1.1, ← Hr.out.2]; rfl, Hr.out.1.owned (Hh.out.forget (List.sublist_cons_self _ _)), Hh.out.below⟩
end Go.Proofs.YtmhhjchnjaefhaaDoor


namespace Go.Proofs.YtmhhjchnjaefhaaDoor
open Go Go.RowKit
def tfS : List Int := [1, 1, 1]
def tfM : List Int := [9, 4, 7, 10, 1, 8, 11, 2, 5, 0, 3, 6]
def kkS : List Int := [1]
def kkM : List Int := [1, 0, 3, 2]
theorem tf_valid : vldB tfS tfM 0 = true := by decide +kernel
theorem kk_valid : vldB kkS kkM 0 = true := by decide +kernel
theorem tf_grp : grpOf tfM tfS.length = [[0, 1, 2]] := by
  rw [← rgroups_eq (vldB_shape tf_valid).mates]
  decide +kernel
theorem kk_grp : grpOf kkM kkS.length = [[0]] := by
  rw [← rgroups_eq (vldB_shape kk_valid).mates]
  decide +kernel
theorem tf_pinf : pinf tfS tfM tfS.length = [([1, 5, 8, 11, 6, 1, 9, 0, 3, 10, 1, 1, 4, 7, 2], 3)] := by
  unfold pinf
  rw [tf_grp]
  decide +kernel
theorem kk_pinf : pinf kkS kkM kkS.length = [([1, 1, 0, 3, 2], 1)] := by
  unfold pinf
  rw [kk_grp]
  decide +kernel
theorem srtC_one (c : List Int) : srtC [c] = [c] := by unfold srtC; exact List.mergeSort_singleton c
theorem tf_codes : codesL tfS tfM tfS.length = [[1, 5, 8, 11, 6, 1, 9, 0, 3, 10, 1, 1, 4, 7, 2]] := by
  unfold codesL; rw [tf_pinf]; exact srtC_one _
theorem kk_codes : codesL kkS kkM kkS.length = [[1, 1, 0, 3, 2]] := by
  unfold codesL; rw [kk_pinf]; exact srtC_one _
theorem tf_code : codeOf tfS tfM 0 = [0, 1, 3, 1, 5, 8, 11, 6, 1, 9, 0, 3, 10, 1, 1, 4, 7, 2] := by
  unfold codeOf; rw [tf_codes]; decide
theorem kk_code : codeOf kkS kkM 0 = [0, 1, 1, 1, 1, 0, 3, 2] := by
  unfold codeOf; rw [kk_codes]; decide
theorem tf_sym : symV tfS tfM tfS.length = 3 := by
  unfold symV; rw [tf_codes, tf_pinf]; decide
theorem dig_one {u : Nat} (h : u < 10) : Lib.decDigits u = [UInt8.ofNat (48 + u)] := by
  rw [Lib.decDigits, dif_pos h]
theorem dig_two {u : Nat} (h : 10 ≤ u) (h2 : u < 100) : Lib.decDigits u = [UInt8.ofNat (48 + u / 10), UInt8.ofNat (48 + u % 10)] := by
  rw [Lib.decDigits, dif_neg (by omega), dig_one (by omega)]; rfl
/-- The numerals that are needed, computed. -/
def itoa2 (x : Int) : List UInt8 := if x < 10 then [UInt8.ofNat (48 + x.toNat)] else [UInt8.ofNat (48 + x.toNat / 10), UInt8.ofNat (48 + x.toNat % 10)]
theorem itoa_2 {x : Int} (h : 0 ≤ x) (h2 : x < 100) : Lib.itoa x = itoa2 x := by
  unfold Lib.itoa itoa2
  rw [if_neg (by omega)]
  split
  · exact dig_one (by omega)
  · exact dig_two (by omega) (by omega)
def keyT2 (l : List Int) : Nat → List UInt8
  | 0 => []
  | i + 1 => keyT2 l i ++ (if 0 < i then [44] else []) ++ itoa2 (nth l i)
theorem keyT_2 {l : List Int} (h : ∀ x, x ∈ l → 0 ≤ x ∧ x < 100) : ∀ i, i ≤ l.length → keyT l i = keyT2 l i
  | 0, _ => rfl
  | i + 1, hi => by
    have hx := h (nth l i) (nth_mem l i hi)
    rw [keyT, keyT2, keyT_2 h i (by omega), itoa_2 hx.1 hx.2]
theorem tf_key : keyOf (cdV tfS tfM 0) = [48, 44, 49, 44, 51, 44, 49, 44, 53, 44, 56, 44, 49, 49, 44, 54, 44, 49, 44, 57, 44, 48, 44, 51, 44, 49, 48, 44, 49, 44, 49, 44, 52, 44, 55, 44, 50] := by
  unfold keyOf
  rw [cdV_yes tf_valid, tf_code, keyT_2 (by decide) _ (Nat.le_refl _)]
  decide +kernel
theorem kk_key : keyOf (cdV kkS kkM 0) = [48, 44, 49, 44, 49, 44, 49, 44, 49, 44, 48, 44, 51, 44, 50] := by
  unfold keyOf
  rw [cdV_yes kk_valid, kk_code, keyT_2 (by decide) _ (Nat.le_refl _)]
  decide +kernel
set_option maxRecDepth 100000 in
set_option maxHeartbeats 2000000 in
theorem tref_any (w : World) : Calls Tryd.prog 38 #[] w fun e w' => ∃ a b c d, e = .returned (.agg #[.slice a 3 c, .slice b 12 d, .int .i64 0]) ∧ Own w' w.heap.size 3 a c (ints tfS) ∧ Own w' w.heap.size 3 b d (ints tfM) ∧ Below w.heap.size w w' := by
  have H9 := Lib.hid ((((HH.start w).alloc #[.slice (some ⟨w.heap.size + 1, 0, none⟩) 3 3, .slice (some ⟨w.heap.size + 1 + 1, 0, none⟩) 12 12, .int .i64 0] 24 rfl rfl).alloc #[.int .i64 1, .int .i64 1, .int .i64 1] 3 (b := w.heap.size + 1) (by simp) rfl).alloc #[.int .i64 9, .int .i64 4, .int .i64 7, .int .i64 10, .int .i64 1, .int .i64 8, .int .i64 11, .int .i64 2, .int .i64 5, .int .i64 0, .int .i64 3, .int .i64 6] 3 (b := w.heap.size + 1 + 1) (by simp) rfl)
  have hF0 := H9.out.cell (k := 0) (i := 0) rfl rfl
  have hF1 := H9.out.cell (k := 0) (i := 1) rfl rfl
  have hF2 := H9.out.cell (k := 0) (i := 2) rfl rfl
  have H8 := Lib.hid (And.intro hF0 (And.intro hF1 hF2))
  clear hF0 hF1 hF2
  go_enter Tryd.func38, Tryd.ntmps38
  go_wp2_with fail
  obtain ⟨hF0, hF1, hF2⟩ := H8.out
  refine bodyPost_ret (v := .agg #[.slice (some ⟨w.heap.size + 1, 0, none⟩) 3 3, .slice (some ⟨w.heap.size + 1 + 1, 0, none⟩) 12 12, .int .i64 0]) (by simp [results, Tryd.results38, go_sem, hF0, hF1, hF2]) rfl ?_
  exact ⟨_, _, 3, 12, rfl, (H9.out.row (k := 1) rfl).own (Nat.le_add_right _ 1), (H9.out.row (k := 2) rfl).own (Nat.le_add_right _ 2), H9.out.below⟩
set_option maxRecDepth 100000 in
set_option maxHeartbeats 2000000 in
theorem kink_any (w : World) : Calls Tryd.prog 39 #[] w fun e w' => ∃ a b c d, e = .returned (.agg #[.slice a 1 c, .slice b 4 d, .int .i64 0]) ∧ Own w' w.heap.size 3 a c (ints kkS) ∧ Own w' w.heap.size 3 b d (ints kkM) ∧ Below w.heap.size w w' := by
  have H9 := Lib.hid ((((HH.start w).alloc #[.slice (some ⟨w.heap.size + 1, 0, none⟩) 1 1, .slice (some ⟨w.heap.size + 1 + 1, 0, none⟩) 4 4, .int .i64 0] 24 rfl rfl).alloc #[.int .i64 1] 3 (b := w.heap.size + 1) (by simp) rfl).alloc #[.int .i64 1, .int .i64 0, .int .i64 3, .int .i64 2] 3 (b := w.heap.size + 1 + 1) (by simp) rfl)
  have hF0 := H9.out.cell (k := 0) (i := 0) rfl rfl
  have hF1 := H9.out.cell (k := 0) (i := 1) rfl rfl
  have hF2 := H9.out.cell (k := 0) (i := 2) rfl rfl
  have H8 := Lib.hid (And.intro hF0 (And.intro hF1 hF2))
  clear hF0 hF1 hF2
  go_enter Tryd.func39, Tryd.ntmps39
  go_wp2_with fail
  obtain ⟨hF0, hF1, hF2⟩ := H8.out
  refine bodyPost_ret (v := .agg #[.slice (some ⟨w.heap.size + 1, 0, none⟩) 1 1, .slice (some ⟨w.heap.size + 1 + 1, 0, none⟩) 4 4, .int .i64 0]) (by simp [results, Tryd.results39, go_sem, hF0, hF1, hF2]) rfl ?_
  exact ⟨_, _, 1, 4, rfl, (H9.out.row (k := 1) rfl).own (Nat.le_add_right _ 1), (H9.out.row (k := 2) rfl).own (Nat.le_add_right _ 2), H9.out.below⟩
set_option maxRecDepth 100000 in
set_option maxHeartbeats 4000000 in
theorem awake_any (w : World) (ht : Pow10 w) : Calls Tryd.prog 11 #[] w fun e w' => e = .returned (.bool true) ∧ Below w.heap.size w w' := by
  have HT : Hid (∀ W', Below w.heap.size w W' → Pow10 W') := Lib.hid fun W' h => ht.later h
  have HR : Hid (∀ W', Calls Tryd.prog 38 #[] W' fun e w' => ∃ a b c d, e = .returned (.agg #[.slice a 3 c, .slice b 12 d, .int .i64 0]) ∧ Own w' W'.heap.size 3 a c (ints tfS) ∧ Own w' W'.heap.size 3 b d (ints tfM) ∧ Below W'.heap.size W' w') := Lib.hid tref_any
  have HK : Hid (∀ W', Calls Tryd.prog 39 #[] W' fun e w' => ∃ a b c d, e = .returned (.agg #[.slice a 1 c, .slice b 4 d, .int .i64 0]) ∧ Own w' W'.heap.size 3 a c (ints kkS) ∧ Own w' W'.heap.size 3 b d (ints kkM) ∧ Below W'.heap.size W' w') := Lib.hid kink_any
  have HS : Hid (∀ W' a b c d, IntsAt W' a tfS → IntsAt W' b tfM → Calls Tryd.prog 15 #[.agg #[.slice a 3 c, .slice b 12 d, .int .i64 0]] W' fun e w' => e = .returned (.int .i64 3) ∧ Below W'.heap.size W' w') := Lib.hid fun W' a b c d h1 h2 => by
    have g := sym_yes tfS tfM 0 a b c d W' tf_valid (by decide) h1 h2
    rw [tf_sym] at g
    exact g
  have HY : Hid (∀ W' a b c d, Pow10 W' → IntsAt W' a tfS → IntsAt W' b tfM → Calls Tryd.prog 24 #[.agg #[.slice a 3 c, .slice b 12 d, .int .i64 0]] W' fun e w' => e = .returned (.string ⟨#[48, 44, 49, 44, 51, 44, 49, 44, 53, 44, 56, 44, 49, 49, 44, 54, 44, 49, 44, 57, 44, 48, 44, 51, 44, 49, 48, 44, 49, 44, 49, 44, 52, 44, 55, 44, 50]⟩) ∧ Below W'.heap.size W' w') := Lib.hid fun W' a b c d h h1 h2 => by
    have g := key_any tfS tfM 0 a b c d W' (by decide) (by decide) h h1 h2
    rw [tf_key] at g
    exact g
  have HZ : Hid (∀ W' a b c d, Pow10 W' → IntsAt W' a kkS → IntsAt W' b kkM → Calls Tryd.prog 24 #[.agg #[.slice a 1 c, .slice b 4 d, .int .i64 0]] W' fun e w' => e = .returned (.string ⟨#[48, 44, 49, 44, 49, 44, 49, 44, 49, 44, 48, 44, 51, 44, 50]⟩) ∧ Below W'.heap.size W' w') := Lib.hid fun W' a b c d h h1 h2 => by
    have g := key_any kkS kkM 0 a b c d W' (by decide) (by decide) h h1 h2
    rw [kk_key] at g
    exact g
  have H0 := Lib.hid (HH.start w)
  go_enter Tryd.func11, Tryd.ntmps11
  go_wp2_with fail
  refine (HR.out _).mono ?_
  rintro e w1 ⟨aK, bK, cK, dK, rfl, ho1, ho2, hb⟩
  have H1 := Lib.hid (H0.out.call hb)
  have O1 := Lib.hid (And.intro ho1.ints ho2.ints)
  clear ho1 ho2 hb H0
  go_wp2_with fail
  refine (HS.out _ aK bK cK dK O1.out.1 O1.out.2).mono ?_
  rintro e w2 ⟨rfl, hb⟩
  have H2 := Lib.hid (H1.out.call hb)
  clear hb H1 O1
  go_wp2_with fail
  refine (HR.out _).mono ?_
  rintro e w3 ⟨aJ, bJ, cJ, dJ, rfl, ho1, ho2, hb⟩
  have H3 := Lib.hid (H2.out.call hb)
  have O3 := Lib.hid (And.intro ho1.ints ho2.ints)
  clear ho1 ho2 hb H2
  go_wp2_with fail
  refine (HY.out _ aJ bJ cJ dJ (HT.out _ H3.out.below) O3.out.1 O3.out.2).mono ?_
  rintro e w4 ⟨rfl, hb⟩
  have H4 := Lib.hid (H3.out.call hb)
  clear hb H3 O3
  go_wp2_with fail
  refine (HK.out _).mono ?_
  rintro e w5 ⟨aI, bI, cI, dI, rfl, ho1, ho2, hb⟩
  have H5 := Lib.hid (H4.out.call hb)
  have O5 := Lib.hid (And.intro ho1.ints ho2.ints)
  clear ho1 ho2 hb H4
  go_wp2_with fail
  refine (HZ.out _ aI bI cI dI (HT.out _ H5.out.below) O5.out.1 O5.out.2).mono ?_
  rintro e w6 ⟨rfl, hb⟩
  have H6 := Lib.hid (H5.out.call hb)
  clear hb H5 O5
  go_wp2_with fail
  go_ret
  exact ⟨rfl, H6.out.below⟩
end Go.Proofs.YtmhhjchnjaefhaaDoor

namespace Go.Proofs.YtmhhjchnjaefhaaDoor
open Go Go.RowKit
/-- More than 20 crossings or 80 half-edges. -/
def greatB (S M : List Int) (_ : Int) : Bool := decide (20 < S.length) || decide (80 < M.length)
theorem greatB_no {S M : List Int} {L : Int} (h : greatB S M L = false) : S.length ≤ 20 ∧ M.length ≤ 80 := by
  unfold greatB at h
  simp only [Bool.or_eq_false_iff, decide_eq_false_iff_not] at h
  omega
set_option maxRecDepth 100000 in
set_option maxHeartbeats 1000000 in
theorem great_a (S M : List Int) (L : Int) (aS aM : Option Addr) (cS cM : Nat) (w : World) (h : 20 < S.length) :
    Calls Tryd.prog 12 #[.agg #[.slice aS S.length cS, .slice aM M.length cM, .int .i64 L]] w fun e w' => e = .returned (.bool true) ∧ Below w.heap.size w w' := by
  have t1 : decide ((20 : Int) < (S.length : Int)) = true := decide_eq_true (by omega)
  have t2 : decide (20 < S.length) = true := decide_eq_true h
  have H0 := Lib.hid ((HH.start w).alloc #[.slice aS S.length cS, .slice aM M.length cM, .int .i64 L] 24 rfl rfl)
  clear h
  generalize S.length = n at *
  generalize M.length = N at *
  go_enter Tryd.func12, Tryd.ntmps12
  have k00 := H0.out.cell (k := 0) (i := 0) rfl rfl
  have k01 := H0.out.cell (k := 0) (i := 1) rfl rfl
  have k02 := H0.out.cell (k := 0) (i := 2) rfl rfl
  go_wp2_with fail
  go_ret
  exact ⟨rfl, H0.out.below⟩
set_option maxRecDepth 100000 in
set_option maxHeartbeats 1000000 in
theorem great_b (S M : List Int) (L : Int) (aS aM : Option Addr) (cS cM : Nat) (w : World) (h : S.length ≤ 20) (h2 : 80 < M.length) :
    Calls Tryd.prog 12 #[.agg #[.slice aS S.length cS, .slice aM M.length cM, .int .i64 L]] w fun e w' => e = .returned (.bool true) ∧ Below w.heap.size w w' := by
  have t1 : decide ((20 : Int) < (S.length : Int)) = false := decide_eq_false (by omega)
  have t2 : decide (20 < S.length) = false := decide_eq_false (by omega)
  have t3 : decide ((80 : Int) < (M.length : Int)) = true := decide_eq_true (by omega)
  have t4 : decide (80 < M.length) = true := decide_eq_true h2
  have H0 := Lib.hid ((HH.start w).alloc #[.slice aS S.length cS, .slice aM M.length cM, .int .i64 L] 24 rfl rfl)
  clear h h2
  generalize S.length = n at *
  generalize M.length = N at *
  go_enter Tryd.func12, Tryd.ntmps12
  have k00 := H0.out.cell (k := 0) (i := 0) rfl rfl
  have k01 := H0.out.cell (k := 0) (i := 1) rfl rfl
  have k02 := H0.out.cell (k := 0) (i := 2) rfl rfl
  go_wp2_with fail
  go_ret
  exact ⟨rfl, H0.out.below⟩
set_option maxRecDepth 100000 in
set_option maxHeartbeats 1000000 in
theorem great_c (S M : List Int) (L : Int) (aS aM : Option Addr) (cS cM : Nat) (w : World) (h : S.length ≤ 20) (h2 : M.length ≤ 80) :
    Calls Tryd.prog 12 #[.agg #[.slice aS S.length cS, .slice aM M.length cM, .int .i64 L]] w fun e w' => e = .returned (.bool false) ∧ Below w.heap.size w w' := by
  have t1 : decide ((20 : Int) < (S.length : Int)) = false := decide_eq_false (by omega)
  have t2 : decide (20 < S.length) = false := decide_eq_false (by omega)
  have t3 : decide ((80 : Int) < (M.length : Int)) = false := decide_eq_false (by omega)
  have t4 : decide (80 < M.length) = false := decide_eq_false (by omega)
  have H0 := Lib.hid ((HH.start w).alloc #[.slice aS S.length cS, .slice aM M.length cM, .int .i64 L] 24 rfl rfl)
  clear h h2
  generalize S.length = n at *
  generalize M.length = N at *
  go_enter Tryd.func12, Tryd.ntmps12
  have k00 := H0.out.cell (k := 0) (i := 0) rfl rfl
  have k01 := H0.out.cell (k := 0) (i := 1) rfl rfl
  have k02 := H0.out.cell (k := 0) (i := 2) rfl rfl
  go_wp2_with fail
  go_ret
  exact ⟨rfl, H0.out.below⟩
theorem great_any (S M : List Int) (L : Int) (aS aM : Option Addr) (cS cM : Nat) (w : World) : Calls Tryd.prog 12 #[.agg #[.slice aS S.length cS, .slice aM M.length cM, .int .i64 L]] w fun e w' => e = .returned (.bool (greatB S M L)) ∧ Below w.heap.size w w' := by
  unfold greatB
  by_cases h : 20 < S.length
  · rw [decide_eq_true h, Bool.true_or]; exact great_a S M L aS aM cS cM w h
  · rw [decide_eq_false h, Bool.false_or]
    by_cases h2 : 80 < M.length
    · rw [decide_eq_true h2]; exact great_b S M L aS aM cS cM w (by omega) h2
    · rw [decide_eq_false h2]; exact great_c S M L aS aM cS cM w (by omega) (by omega)
end Go.Proofs.YtmhhjchnjaefhaaDoor

namespace Go.Proofs.YtmhhjchnjaefhaaDoor
open Go Go.RowKit
/-- The reference's Less. -/
def lessB (a b : List Int) : Bool := if a.length = b.length then decide (cmpL a b < 0) else decide (a.length < b.length)
theorem lessB_no {a b : List Int} : lessB a b = false ↔ slx b a = true := by
  unfold lessB slx
  by_cases h : a.length = b.length
  · rw [if_pos h, if_pos h.symm, decide_eq_false_iff_not, decide_eq_true_eq, cmpL_swap a b]
    constructor <;> intro g <;> omega
  · rw [if_neg h, if_neg (fun e => h e.symm), decide_eq_false_iff_not, decide_eq_true_eq]
    constructor <;> intro g <;> omega
theorem lessB_yes {a b : List Int} (h : lessB a b = true) : slx a b = true := by
  unfold lessB at h
  unfold slx
  by_cases g : a.length = b.length
  · rw [if_pos g, decide_eq_true_eq] at h
    rw [if_pos g, decide_eq_true_eq]; omega
  · rw [if_neg g, decide_eq_true_eq] at h
    rw [if_neg g, decide_eq_true_eq]; omega
def bstStep (S M : List Int) (n b r : Nat) : Nat := if lessB (codeL S M r n) (codeL S M b n) = true then r else b
/-- The first crossing with the least code of the first k. -/
def bstTo (S M : List Int) (n : Nat) (G : List Nat) (k : Nat) : Nat := (G.take k).foldl (bstStep S M n) (G.getD 0 0)
def bstOf (S M : List Int) (n : Nat) (G : List Nat) : Nat := bstTo S M n G G.length
theorem bstTo_succ {S M : List Int} {n : Nat} {G : List Nat} {k : Nat} (h : k < G.length) : bstTo S M n G (k + 1) = bstStep S M n (bstTo S M n G k) (G.getD k 0) := by
  unfold bstTo
  rw [List.take_add_one, getD_some (d := 0) h, Option.toList_some, List.foldl_append]; rfl
theorem bstTo_in {S M : List Int} {n : Nat} {G : List Nat} (h : 0 < G.length) : ∀ k, k ≤ G.length → bstTo S M n G k ∈ G
  | 0, _ => by unfold bstTo; rw [List.take_zero]; exact getD_mem h
  | k + 1, hk => by
    rw [bstTo_succ (by omega)]
    unfold bstStep
    split
    · exact getD_mem (by omega)
    · exact bstTo_in h k (by omega)
theorem slx_refl (a : List Int) : slx a a = true := by
  unfold slx
  rw [if_pos rfl, decide_eq_true_eq, cmpL_zero.2 rfl]; exact Int.le_refl _
theorem bstTo_le {S M : List Int} {n : Nat} {G : List Nat} : ∀ k, k ≤ G.length → ∀ j, j < k → slx (codeL S M (bstTo S M n G k) n) (codeL S M (G.getD j 0) n) = true
  | 0, _, j, h => absurd h (Nat.not_lt_zero j)
  | k + 1, hk, j, hj => by
    rw [bstTo_succ (by omega)]
    unfold bstStep
    split
    · rename_i g
      rcases Nat.lt_or_ge j k with h | h
      · exact slx_trans _ _ _ (lessB_yes g) (bstTo_le k (by omega) j h)
      · obtain rfl : j = k := by omega
        exact slx_refl _
    · rename_i g
      rcases Nat.lt_or_ge j k with h | h
      · exact bstTo_le k (by omega) j h
      · obtain rfl : j = k := by omega
        exact lessB_no.1 (by simpa using g)
theorem bst_in {S M : List Int} {n : Nat} {G : List Nat} (h : 0 < G.length) : bstOf S M n G ∈ G := bstTo_in h _ (Nat.le_refl _)
theorem bst_code {S M : List Int} {n : Nat} (hmo : MateOk M n) (hm : ∀ x, x < 4 * n → mt M x < 4 * n) {G : List Nat} (hG : G ∈ grpOf M n) : codeL S M (bstOf S M n G) n = (pieOf S M n G).1 := by
  have hw := grp_whole hmo hG
  obtain ⟨r, hr, e1, _⟩ := (pie_is S M n hw.2).at_
  have hle := (pie_is S M n hw.2).le (bstOf S M n G) (bst_in hw.2)
  have hl : ∀ x, x ∈ G → (codeL S M x n).length = 5 * G.length := fun x hx => by rw [codeL_len, ordL_len hmo hm hG hx]
  obtain ⟨j, hj, ej⟩ := List.mem_iff_getElem.1 hr
  have hb : slx (codeL S M (bstOf S M n G) n) (codeL S M (G.getD j 0) n) = true := bstTo_le G.length (Nat.le_refl _) j hj
  rw [List.getD_eq_getElem?_getD, List.getElem?_eq_getElem hj, ej, Option.getD_some, ← e1] at hb
  refine slx_anti hb ?_
  unfold slx
  rw [if_pos (by rw [e1, hl _ hr, hl _ (bst_in hw.2)]), decide_eq_true_eq]
  exact hle
/-- The roots after k groups. -/
structure Rts (S M : List Int) (n k : Nat) (rs : List Nat) : Prop where
  perm : rs.Perm (((grpOf M n).take k).map (bstOf S M n))
  srt : rs.Pairwise fun a b => slx (codeL S M a n) (codeL S M b n) = true
theorem Rts.zero (S M : List Int) (n : Nat) : Rts S M n 0 [] := ⟨by rw [List.take_zero]; exact List.Perm.refl _, List.Pairwise.nil⟩
theorem Rts.next {S M : List Int} {n k : Nat} {rs : List Nat} (h : Rts S M n k rs) (hk : k < (grpOf M n).length) {p : Nat} (hp : p ≤ rs.length)
    (h1 : p = 0 ∨ lessB (codeL S M (bstOf S M n ((grpOf M n).getD k [])) n) (codeL S M (rs.getD (p - 1) 0) n) = false)
    (h2 : ∀ i, p ≤ i → i < rs.length → lessB (codeL S M (bstOf S M n ((grpOf M n).getD k [])) n) (codeL S M (rs.getD i 0) n) = true) :
    Rts S M n (k + 1) (rs.take p ++ bstOf S M n ((grpOf M n).getD k []) :: rs.drop p) := by
  generalize hb : bstOf S M n ((grpOf M n).getD k []) = b at *
  have hs : rs = rs.take p ++ rs.drop p := (List.take_append_drop p rs).symm
  have hsrt := h.srt
  rw [hs, List.pairwise_append] at hsrt
  refine ⟨?_, ?_⟩
  · refine List.perm_middle.trans ?_
    rw [List.take_append_drop, List.take_add_one, getD_some (d := []) hk, Option.toList_some, List.map_append, List.map_singleton, hb]
    exact (h.perm.cons b).trans (List.perm_append_singleton _ _).symm
  · rw [List.pairwise_append]
    refine ⟨hsrt.1, ?_, fun x hx y hy => ?_⟩
    · rw [List.pairwise_cons]
      refine ⟨fun y hy => ?_, hsrt.2.1⟩
      obtain ⟨i, hi, e⟩ := List.mem_iff_getElem.1 hy
      rw [List.length_drop] at hi
      rw [List.getElem_drop] at e
      have := h2 (p + i) (by omega) (by omega)
      rw [List.getD_eq_getElem?_getD, List.getElem?_eq_getElem (by omega), Option.getD_some, e] at this
      exact lessB_yes this
    · rcases List.mem_cons.1 hy with rfl | hy
      · obtain ⟨i, hi, e⟩ := List.mem_iff_getElem.1 hx
        rw [List.length_take] at hi
        rw [List.getElem_take] at e
        rcases h1 with h1 | h1
        · omega
        · have h1 := lessB_no.1 h1
          rw [List.getD_eq_getElem?_getD, List.getElem?_eq_getElem (by omega), Option.getD_some] at h1
          rcases Nat.lt_or_ge i (p - 1) with g | g
          · have h3 := List.pairwise_iff_getElem.1 h.srt i (p - 1) (by omega) (by omega) g
            rw [e] at h3
            exact slx_trans _ _ _ h3 h1
          · have e2 : i = p - 1 := by omega
            subst e2
            rw [e] at h1
            exact h1
      · exact hsrt.2.2 x hx y hy
section
variable {S M : List Int} {n : Nat} (hmo : MateOk M n) (hm : ∀ x, x < 4 * n → mt M x < 4 * n) {rs : List Nat} (h : Rts S M n (grpOf M n).length rs)
include hmo hm h
theorem rts_codes : rs.map (fun r => codeL S M r n) = codesL S M n := by
  have hp := h.perm
  rw [List.take_of_length_le (Nat.le_refl _)] at hp
  refine srtC_uniq ?_ (by rw [List.pairwise_map]; exact h.srt)
  refine (hp.map _).trans (List.Perm.of_eq ?_)
  unfold pinf
  rw [List.map_map, List.map_map]
  refine List.map_congr_left fun G hG => ?_
  exact bst_code hmo hm hG
theorem rts_of {r : Nat} (hr : r ∈ rs) : ∃ G, G ∈ grpOf M n ∧ r = bstOf S M n G ∧ r ∈ G ∧ r < n := by
  have _ := hm
  have hp := h.perm
  rw [List.take_of_length_le (Nat.le_refl _)] at hp
  obtain ⟨G, hG, rfl⟩ := List.mem_map.1 (hp.mem_iff.1 hr)
  have hw := grp_whole hmo hG
  exact ⟨G, hG, rfl, bst_in hw.2, hw.1.lt _ (bst_in hw.2)⟩
end
/-- How many crossings yield the code of r. -/
def kOf (S M : List Int) (n r : Nat) : Nat := rootsN S M n (ordL M r n) (codeL S M r n)
theorem kOf_pos {S M : List Int} {n r : Nat} : 1 ≤ kOf S M n r := by
  unfold kOf rootsN
  refine List.countP_pos_iff.2 ⟨r, ?_, decide_eq_true rfl⟩
  exact (ordTo_pre M r (Nat.zero_le n)).subset (by simp [ordTo])
/-- The reference's product and number of like pieces, after i roots. -/
def symR (S M : List Int) (n : Nat) (rs : List Nat) : Nat → Int × Int
  | 0 => (1, 0)
  | i + 1 => (min (min ((symR S M n rs i).1 * (kOf S M n (rs.getD i 0) : Int)) capS * (if 0 < i ∧ codeL S M (rs.getD (i - 1) 0) n ≠ codeL S M (rs.getD i 0) n then 1 else (symR S M n rs i).2 + 1)) capS, if 0 < i ∧ codeL S M (rs.getD (i - 1) 0) n ≠ codeL S M (rs.getD i 0) n then 1 else (symR S M n rs i).2 + 1)
theorem symR_is (S M : List Int) (n : Nat) (rs : List Nat) : ∀ i, i ≤ rs.length → (symR S M n rs i).1 = min (prodI ((rs.take i).map fun r => (kOf S M n r : Int)) * aprod (rs.map fun r => codeL S M r n) i) capS ∧ (0 < i → (symR S M n rs i).2 = alk (rs.map fun r => codeL S M r n) (i - 1)) := fun i => by
  induction i with
  | zero => intro _; exact ⟨by show (1 : Int) = _; rw [List.take_zero]; rfl, fun h => absurd h (Nat.lt_irrefl 0)⟩
  | succ i ih =>
    intro hi
    obtain ⟨h1, h2⟩ := ih (by omega)
    have hil : i < rs.length := by omega
    have ge : ∀ j, j < rs.length → (rs.map fun r => codeL S M r n).getD j [] = codeL S M (rs.getD j 0) n := fun j hj => by
      rw [List.getD_eq_getElem?_getD, List.getD_eq_getElem?_getD, List.getElem?_map, List.getElem?_eq_getElem hj]; rfl
    have ha : (if 0 < i ∧ codeL S M (rs.getD (i - 1) 0) n ≠ codeL S M (rs.getD i 0) n then 1 else (symR S M n rs i).2 + 1) = alk (rs.map fun r => codeL S M r n) i := by
      cases i with
      | zero => simp [alk, symR]
      | succ j =>
        rw [alk, ge _ hil, ge j (by omega), h2 (by omega), Nat.add_sub_cancel]
        by_cases g : codeL S M (rs.getD j 0) n = codeL S M (rs.getD (j + 1) 0) n
        · rw [if_neg (fun k => k.2 g), if_pos g.symm]
        · rw [if_pos ⟨Nat.succ_pos _, g⟩, if_neg (fun k => g k.symm)]
    refine ⟨?_, fun _ => ?_⟩
    · rw [symR]
      show min (min ((symR S M n rs i).1 * (kOf S M n (rs.getD i 0) : Int)) capS * (if _ then _ else _)) capS = _
      rw [ha, h1, List.take_add_one, getD_some (d := 0) hil, List.map_append, prodI_append, aprod]
      have p1 : 1 ≤ prodI ((rs.take i).map fun r => (kOf S M n r : Int)) := prodI_pos fun x hx => by
        obtain ⟨p, hp, rfl⟩ := List.mem_map.1 hx
        have := kOf_pos (S := S) (M := M) (n := n) (r := p); omega
      have p2 := aprod_pos (rs.map fun r => codeL S M r n) i
      have p3 := alk_pos (rs.map fun r => codeL S M r n) i
      have p4 : (1 : Int) ≤ (kOf S M n (rs.getD i 0) : Int) := by have := kOf_pos (S := S) (M := M) (n := n) (r := rs.getD i 0); omega
      have e : prodI (List.map (fun r => (kOf S M n r : Int)) (some (rs.getD i 0)).toList) = (kOf S M n (rs.getD i 0) : Int) := by simp [prodI]
      have q1 : 1 ≤ prodI ((rs.take i).map fun r => (kOf S M n r : Int)) * aprod (rs.map fun r => codeL S M r n) i := by have := Int.mul_le_mul p1 p2 (by decide) (by omega); omega
      have q2 : 1 ≤ prodI ((rs.take i).map fun r => (kOf S M n r : Int)) * aprod (rs.map fun r => codeL S M r n) i * (kOf S M n (rs.getD i 0) : Int) := by have := Int.mul_le_mul q1 p4 (by decide) (by omega); omega
      rw [e, min_mul q1 p4 (by decide), min_mul q2 p3 (by decide)]
      congr 1
      simp only [Int.mul_assoc, Int.mul_left_comm, Int.mul_comm]
    · rw [symR]
      exact ha
theorem symR_all {S M : List Int} {n : Nat} (hmo : MateOk M n) (hm : ∀ x, x < 4 * n → mt M x < 4 * n) {rs : List Nat} (h : Rts S M n (grpOf M n).length rs) : (symR S M n rs rs.length).1 = symV S M n := by
  have hp := h.perm
  rw [List.take_of_length_le (Nat.le_refl _)] at hp
  have hc := rts_codes hmo hm h
  rw [(symR_is S M n rs _ (Nat.le_refl _)).1, List.take_length, hc]
  unfold symV
  have e : prodI (rs.map fun r => (kOf S M n r : Int)) = prodI ((pinf S M n).map Prod.snd) := by
    rw [prodI_perm (hp.map fun r => (kOf S M n r : Int))]
    unfold pinf
    rw [List.map_map, List.map_map]
    congr 1
    refine List.map_congr_left fun G hG => ?_
    have hw := grp_whole hmo hG
    show ((rootsN S M n (ordL M (bstOf S M n G) n) (codeL S M (bstOf S M n G) n) : Nat) : Int) = (pieOf S M n G).2.2
    rw [pie_roots S M n hw.2, bst_code hmo hm hG]
    unfold rootsN
    rw [(ordL_perm hmo hm hG (bst_in hw.2)).countP_eq]
  rw [e, ← hc, List.length_map]
theorem symR_bd (S M : List Int) (n : Nat) (rs : List Nat) {i : Nat} (hi : i ≤ rs.length) : 1 ≤ (symR S M n rs i).1 ∧ (symR S M n rs i).1 ≤ 1099511627776 ∧ 0 ≤ (symR S M n rs i).2 ∧ (symR S M n rs i).2 ≤ (i : Int) := by
  obtain ⟨h1, h2⟩ := symR_is S M n rs i hi
  have p1 : 1 ≤ prodI ((rs.take i).map fun r => (kOf S M n r : Int)) := prodI_pos fun x hx => by
    obtain ⟨p, hp, rfl⟩ := List.mem_map.1 hx
    have := kOf_pos (S := S) (M := M) (n := n) (r := p); omega
  have p2 := aprod_pos (rs.map fun r => codeL S M r n) i
  have p3 : 1 ≤ prodI ((rs.take i).map fun r => (kOf S M n r : Int)) * aprod (rs.map fun r => codeL S M r n) i := by have := Int.mul_le_mul p1 p2 (by decide) (by omega); omega
  have pc : (1 : Int) ≤ capS := by decide
  have e : capS = 1099511627776 := rfl
  refine ⟨by rw [h1]; exact Int.le_min.2 ⟨p3, pc⟩, by rw [h1, ← e]; exact Int.min_le_right _ _, ?_, ?_⟩
  · rcases Nat.eq_zero_or_pos i with rfl | h
    · exact Int.le_refl _
    · rw [h2 h]; have := alk_pos (rs.map fun r => codeL S M r n) (i - 1); omega
  · rcases Nat.eq_zero_or_pos i with rfl | h
    · exact Int.le_refl _
    · rw [h2 h]; have := alk_le (rs.map fun r => codeL S M r n) (i - 1); omega
end Go.Proofs.YtmhhjchnjaefhaaDoor

namespace Go.Proofs.YtmhhjchnjaefhaaDoor
open Go Go.RowKit
set_option maxRecDepth 100000 in
set_option maxHeartbeats 1000000 in
theorem in_nats (a : Option Addr) (cG : Nat) (G : List Nat) (x : Nat) (w : World) (h1 : G.length ≤ 1000000) (hG : IntsAt w a (nats G)) :
    Calls Tryd.prog 50 #[.slice a G.length cG, .int .i64 (x : Int)] w fun e w' => e = .returned (.bool (decide (x ∈ G))) ∧ w' = w := by
  have HG := Lib.hid hG
  have HX : Hid (∀ j, j < G.length → G.getD j 0 = x → decide (x ∈ G) = true) := Lib.hid fun j hj e => decide_eq_true (by
    rw [← e, List.getD_eq_getElem?_getD, List.getElem?_eq_getElem hj]; exact List.getElem_mem _)
  have HN : Hid ((∀ j, j < G.length → G.getD j 0 ≠ x) → decide (x ∈ G) = false) := Lib.hid fun h => decide_eq_false fun hm => by
    obtain ⟨j, hj, e⟩ := List.getElem_of_mem hm
    refine h j hj ?_
    rw [List.getD_eq_getElem?_getD, List.getElem?_eq_getElem hj, e]; rfl
  clear hG
  generalize decide (x ∈ G) = t at *
  go_enter Tryd.func50, Tryd.ntmps50
  go_wp2_with fail
  go_loopg [5] G.length (fun g v wr => ∃ j : Nat, j ≤ G.length ∧ g = G.length - j ∧ v = .int .i64 j ∧ Hid (∀ k, k < j → G.getD k 0 ≠ x) ∧ wr = w)
  case atStart => exact ⟨0, Nat.zero_le _, rfl, rfl, Lib.hid fun k hk => absurd hk (Nat.not_lt_zero _), rfl⟩
  case round =>
    obtain ⟨j, hj, rfl, rfl, Hk, hw⟩ := hrel
    subst hw
    by_cases hjl : j < G.length
    · obtain ⟨b, off, rfl, _, hc⟩ := HG.out.open (by rw [nats_length]; omega)
      have hcx := hc j (by rw [nats_length]; exact hjl)
      rw [nth_nats _ _ hjl] at hcx
      clear hc
      by_cases e : G.getD j 0 = x
      · have ht := HX.out j hjl e
        subst ht
        rw [e] at hcx
        clear e
        go_wp2_with fail
        go_ret
        exact ⟨rfl, rfl⟩
      · have t1 : (((G.getD j 0 : Nat) : Int) == (x : Int)) = false := by rw [beq_eq_false_iff_ne]; omega
        have Hk2 : Hid (∀ k, k < j + 1 → G.getD k 0 ≠ x) := Lib.hid fun k hk => by
          by_cases g : k = j
          · rw [g]; exact e
          · exact Hk.out k (by omega)
        generalize G.getD j 0 = v at *
        clear e
        go_wp2_with fail
        go_roundg (G.length - (j + 1))
        case measure => omega
        case rel => exact ⟨j + 1, by omega, rfl, by go_num, Lib.hid Hk2.out, rfl⟩
    · obtain rfl : j = G.length := by omega
      have ht := HN.out Hk.out
      subst ht
      go_wp2_with fail
      go_ret
      exact ⟨rfl, rfl⟩
end Go.Proofs.YtmhhjchnjaefhaaDoor


