/- The reference: Graph, the parts as lists; Part, a part of a diagram by itself. The reference's In and Factor. -/
import Derived.WalkKit
import Derived.WalkSpells
import Derived.WalkLawsBesides
import Derived.Deep.AppendSrc
import Derived.Deep.LoopGhost
import Derived.Deep.QuietTactic
import Derived.Deep.RegionWith
import Derived.Deep.DeepMust
import Derived.Deep.DeepFit
import Derived.BigQuiet
import Derived.Lib.Hide
import Derived.Outline
import Derived.Test.YtmjoijfafachhaaProg
import Derived.Deep.Matrix
import Derived.Deep.DeepCutAuto
import Derived.Deep.RegionLaw
import Derived.Deep.RegionHeld3
import Derived.Shelf.Small.Bits
import Derived.Shelf.Small.Wraps
import Derived.Shelf.Strconv.Itoa0
import Derived.Shelf.Sort.Plain
import Derived.Shelf.Slices.Turned
import Derived.Shelf.Slices.Equal
import Derived.Ground.Names2Prog
import Derived.Shelf.Slices.Clone
import Derived.Shelf.Slices.CompactI
import Derived.Shelf.Slices.SearchI
import Derived.Shelf.Slices.Cells
import Derived.Shelf.Slices.In.SortNone
import Derived.Shelf.Slices.Empties2
import Derived.Ground.SlgnProg
import Derived.Shelf.SlicesE.Clone
import Derived.Lib.AppendZeros
import Derived.Deep.RegionHeld
import Derived.Test.YtmjoijfafachhaaSAa
import Derived.Test.YtmjoijfafachhaaSAc
import Derived.Test.YtmjoijfafachhaaSAd
import Derived.Test.YtmjoijfafachhaaSAe
import Derived.Test.YtmjoijfafachhaaSAf
import Derived.Test.YtmjoijfafachhaaSAg
import Derived.Test.YtmjoijfafachhaaSAh
import Derived.Test.YtmjoijfafachhaaSAi
import Derived.Test.YtmjoijfafachhaaSAj
import Derived.Test.YtmjoijfafachhaaSAk
import Derived.Test.YtmjoijfafachhaaSAz
import Derived.Test.YtmjoijfafachhaaSAl
import Derived.Test.YtmjoijfafachhaaSAm
import Derived.Test.YtmjoijfafachhaaSAn
import Derived.Test.YtmjoijfafachhaaSAr
import Derived.Test.YtmjoijfafachhaaSAs
import Derived.Test.YtmjoijfafachhaaSAt
import Derived.Test.YtmjoijfafachhaaSAu
import Derived.Test.YtmjoijfafachhaaSAv
namespace Go.Proofs.Ytmjoijfafachhaa
open Go Go.RowKit
theorem nthO_last {α : Type} (l : List α) (x : α) : nthO (l ++ [x]) l.length = some x := by
  induction l with
  | nil => rfl
  | cons y l ih => exact ih
theorem setO_last {α : Type} (l : List α) (x y : α) : setO (l ++ [x]) l.length y = l ++ [y] := by
  induction l with
  | nil => rfl
  | cons z l ih => show z :: setO (l ++ [x]) l.length y = z :: (l ++ [y]); rw [ih]
/-- The value of a slice that the call owns. -/
def slV (d : SlO) : Value := .slice d.a d.vs.length d.c
/-- The slices ms hold the rows T. -/
def Rws (ms : List SlO) (T : List (List Int)) : Prop := ms.length = T.length ∧ ∀ (m : Nat) (d : SlO), ms[m]? = some d → d.E = 3 ∧ d.vs = ints (T.getD m [])
theorem Rws.nil : Rws [] [] := ⟨rfl, fun m d h => by simp at h⟩
theorem Rws.snoc {ms : List SlO} {T : List (List Int)} (h : Rws ms T) (a : Option Addr) (c : Nat) (row : List Int) : Rws (ms ++ [⟨a, c, 3, ints row⟩]) (T ++ [row]) := by
  refine ⟨by rw [List.length_append, List.length_append, h.1]; rfl, fun m d hd => ?_⟩
  rcases Nat.lt_or_ge m ms.length with g | g
  · rw [List.getElem?_append_left g] at hd
    obtain ⟨h1, h2⟩ := h.2 m d hd
    refine ⟨h1, ?_⟩
    rw [h2, List.getD_eq_getElem?_getD, List.getD_eq_getElem?_getD, List.getElem?_append_left (by rw [← h.1]; exact g)]
  · have hm : m < (ms ++ [(⟨a, c, 3, ints row⟩ : SlO)]).length := (List.getElem?_eq_some_iff.1 hd).1
    rw [List.length_append, List.length_singleton] at hm
    obtain rfl : m = ms.length := by omega
    rw [List.getElem?_append_right (Nat.le_refl _), Nat.sub_self] at hd
    cases hd
    refine ⟨rfl, ?_⟩
    rw [h.1, List.getD_eq_getElem?_getD, List.getElem?_append_right (Nat.le_refl _), Nat.sub_self]; rfl
theorem Rws.owned {w0 w : World} {l : Kn} {ms : List SlO} {T : List (List Int)} {A : Option Addr} {E : Nat} (h : Rws ms T) (hh : HH w0 w l (⟨A, E, 22, ms.map slV⟩ :: ms)) : OwnRows w w0.heap.size A E T := by
  refine ⟨ms.map slV, hh.own _ List.mem_cons_self, by rw [List.length_map]; exact h.1, fun i v row h1 h3 => ?_⟩
  have hi := (List.getElem?_eq_some_iff.1 h3).1
  have hil : i < ms.length := by rw [h.1]; exact hi
  have hd := List.getElem?_eq_getElem (l := ms) (i := i) hil
  rw [List.getElem?_map, hd] at h1
  obtain ⟨e1, e2⟩ := h.2 i _ hd
  have ho := hh.own _ (List.mem_cons_of_mem _ (List.mem_of_getElem? hd))
  rw [List.getD_eq_getElem?_getD, h3] at e2
  have e2 : ms[i].vs = ints row := e2
  have hv : slV ms[i] = v := Option.some.inj h1
  rw [e1, e2] at ho
  refine ⟨_, _, ?_, ho⟩
  rw [← hv]
  unfold slV
  rw [e2, ints_length]
/-- The crossings below b with label c. -/
def rgC (lb : List Int) (c b : Nat) : List Nat := (List.range b).filter fun d => decide (nth lb d = (c : Int))
def rgT (lb : List Int) (n k : Nat) : List (List Int) := ((List.range k).filter fun c => decide (nth lb c = (c : Int))).map fun c => nats (rgC lb c n)
theorem rgC_yes {lb : List Int} {c b : Nat} (h : nth lb b = (c : Int)) : rgC lb c (b + 1) = rgC lb c b ++ [b] := by
  unfold rgC; rw [List.range_succ, List.filter_append]; simp [h]
theorem rgC_no {lb : List Int} {c b : Nat} (h : nth lb b ≠ (c : Int)) : rgC lb c (b + 1) = rgC lb c b := by
  unfold rgC; rw [List.range_succ, List.filter_append]; simp [h]
theorem rgC_len (lb : List Int) (c b : Nat) : (rgC lb c b).length ≤ b := by
  have := List.length_filter_le (fun d => decide (nth lb d = (c : Int))) (List.range b)
  rwa [List.length_range] at this
theorem rgT_yes {lb : List Int} {n k : Nat} (h : nth lb k = (k : Int)) : rgT lb n (k + 1) = rgT lb n k ++ [nats (rgC lb k n)] := by
  unfold rgT; rw [List.range_succ, List.filter_append, List.map_append]; simp [h]
theorem rgT_no {lb : List Int} {n k : Nat} (h : nth lb k ≠ (k : Int)) : rgT lb n (k + 1) = rgT lb n k := by
  unfold rgT; rw [List.range_succ, List.filter_append, List.map_append]; simp [h]
theorem rgT_len (lb : List Int) (n k : Nat) : (rgT lb n k).length ≤ k := by
  unfold rgT
  rw [List.length_map]
  have := List.length_filter_le (fun c => decide (nth lb c = (c : Int))) (List.range k)
  rwa [List.length_range] at this
theorem rgT_all {M : List Int} {n : Nat} (hm : MateOk M n) : rgT (rlabel M n) n n = (grpOf M n).map nats := by
  rw [← rgroups_eq hm, List.map_map]; rfl
set_option maxRecDepth 100000 in
set_option maxHeartbeats 4000000 in
theorem rgraph_any (M : List Int) (n : Nat) (aM : Option Addr) (cM : Nat) (w : World) (hn : n ≤ 64) (hl : M.length = 4 * n) (hm : MateOk M n) (hM : IntsAt w aM M) :
    Calls Try.prog 54 #[.slice aM M.length cM] w fun e w' => ∃ a c, e = .returned (.slice a (grpOf M n).length c) ∧ OwnRows w' w.heap.size a c ((grpOf M n).map nats) ∧ Below w.heap.size w w' := by
  have HLb : Hid (∀ W', Below w.heap.size w W' → Calls Try.prog 50 #[.slice aM M.length cM] W' fun e w' => ∃ a c, e = .returned (.slice a n c) ∧ Below W'.heap.size W' w' ∧ Own w' W'.heap.size 3 a c (ints (rlabel M n))) := Lib.hid fun W' h => rlabel_any M n aM cM W' (by omega) hl hm (hM.later h)
  have hlen : (rlabel M n).length = n := rlPass_len M n n
  have HG : Hid (rgT (rlabel M n) n n = (grpOf M n).map nats) := Lib.hid (rgT_all hm)
  have HGl : Hid ((grpOf M n).length = (rgT (rlabel M n) n n).length) := Lib.hid (by rw [HG.out, List.length_map])
  rw [← HG.out, HGl.out]
  obtain ⟨i0, hi0, hz0, hz1, hz2⟩ := info_parts Try.info3
  obtain ⟨i1, hi1, hy0, hy1, hy2⟩ := info_parts Try.info22
  have H0 := Lib.hid (HH.start w)
  clear hl hm hM HG HGl
  generalize rlabel M n = lb at *
  have Htl := Lib.hid (rgT_len lb n)
  have Hcl := Lib.hid (rgC_len lb)
  go_enter Try.func54, Try.ntmps54
  go_wp2_with fail
  refine (HLb.out _ (Below.refl _ _)).mono ?_
  rintro e w1 ⟨aL, cL, rfl, hb, ho⟩
  have H1 := Lib.hid ((H0.out.addSl hb ho).addNil 22)
  clear hb ho H0 HLb
  go_wp2_with fail
  go_loopg [5, 4] n (fun g v s4 wr => ∃ (c : Nat) (ms : List SlO) (A : Option Addr) (C k : Nat), c ≤ n ∧ g = n - c ∧ v = .int .i64 c ∧ s4 = .slice A k C ∧ k ≤ c ∧ Hid (Rws ms (rgT lb n c) ∧ k = ms.length) ∧ HH w wr [] (⟨aL, cL, 3, ints lb⟩ :: ⟨A, C, 22, ms.map slV⟩ :: ms))
  case atStart => exact ⟨0, [], none, 0, 0, Nat.zero_le _, rfl, rfl, rfl, Nat.le_refl _, Lib.hid ⟨Rws.nil, rfl⟩, H1.out⟩
  case round =>
    obtain ⟨c, ms, A, C, k, hc, rfl, rfl, rfl, hkc, Hr, hh⟩ := hrel
    have Hh := Lib.hid hh
    clear hh H1
    by_cases hcn : c < n
    · obtain ⟨bL, oL, rfl, _, _, hcL, _⟩ := (Hh.out.sl (k := 0) rfl).open (by show 0 < (ints lb).length; rw [ints_length]; omega)
      have hcx := hcL c _ (ints_get lb c (by omega))
      clear hcL
      by_cases hlc : nth lb c = (c : Int)
      · have t1 : (nth lb c != (c : Int)) = false := by rw [hlc]; simp
        have HT := Lib.hid (rgT_yes (n := n) hlc)
        have H2 := Lib.hid (Hh.out.addNil 3)
        generalize nth lb c = lc at *
        clear hlc Hh
        go_wp2_with fail
        clear hcx t1
        go_loopg [7, 6] n (fun g v s6 wx => ∃ (b : Nat) (a : Option Addr) (cc j : Nat), b ≤ n ∧ g = n - b ∧ v = .int .i64 b ∧ s6 = .slice a j cc ∧ j ≤ b ∧ Hid (j = (rgC lb c b).length) ∧ HH w wx [] (⟨some ⟨bL, oL, none⟩, cL, 3, ints lb⟩ :: ⟨A, C, 22, ms.map slV⟩ :: (ms ++ [⟨a, cc, 3, ints (nats (rgC lb c b))⟩])))
        case atStart => exact ⟨0, none, 0, 0, Nat.zero_le _, rfl, rfl, rfl, Nat.le_refl _, Lib.hid rfl, H2.out⟩
        case round =>
          obtain ⟨b, a, cc, j, hb, rfl, rfl, rfl, hjb, Hj, hh⟩ := hrel
          have Hh := Lib.hid hh
          clear hh H2
          by_cases hbn : b < n
          · obtain ⟨bL', oL', e, _, _, hcL, _⟩ := (Hh.out.sl (k := 0) rfl).open (by show 0 < (ints lb).length; rw [ints_length]; omega)
            cases e
            have hcx := hcL b _ (ints_get lb b (by omega))
            clear hcL
            by_cases hlb : nth lb b = (c : Int)
            · have t1 : (nth lb b == (c : Int)) = true := by rw [hlb]; simp
              have HC := Lib.hid (rgC_yes hlb)
              generalize nth lb b = lv at *
              clear hlb
              have Ha := Lib.hid (Hh.out.call ((Below.refl _ _).alloc (Nat.le_refl _) (.cells #[.int .i64 (b : Int)] 3)))
              have Hc0 : Hid ((wr.alloc (.cells #[.int .i64 (b : Int)] 3)).cell? ⟨wr.heap.size, 0, none⟩ = some (.int .i64 (b : Int))) := Lib.hid ((Row.new wr #[.int .i64 (b : Int)] 3).cell 0)
              have Hl1 := Lib.hid Ha.out.below.size
              have Hnt : Hid ((ints (nats (rgC lb c b))).length = j) := Lib.hid (by rw [ints_length, nats_length, Hj.out])
              have Hsl : Hid (Own (wr.alloc (.cells #[.int .i64 (b : Int)] 3)) w.heap.size 3 a cc (ints (nats (rgC lb c b)))) := Lib.hid (Ha.out.sl (k := ms.length + 2) (nthO_last ms _))
              have HGr : Hid (∀ (A7 : Option Addr) (e7 : Nat) (w7 : World), Own w7 w.heap.size 3 A7 e7 (ints (nats (rgC lb c b)) ++ [.int .i64 (b : Int)]) → Turned (wr.alloc (.cells #[.int .i64 (b : Int)] 3)) w7 a → (∀ x, A7 = some x → ((wr.alloc (.cells #[.int .i64 (b : Int)] 3)).heap.size ≤ x.block ∨ ∃ y, a = some y ∧ x = y)) →
                  HH w w7 [] (⟨some ⟨bL, oL, none⟩, cL, 3, ints lb⟩ :: ⟨A, C, 22, ms.map slV⟩ :: (ms ++ [⟨A7, e7, 3, ints (nats (rgC lb c (b + 1)))⟩]))) := Lib.hid fun A7 e7 w7 h1 h2 h3 => by
                have h := Ha.out.grow (k := ms.length + 2) (nthO_last ms _) h1 h2 h3
                have e := setO_last ms (⟨a, cc, 3, ints (nats (rgC lb c b))⟩ : SlO) ⟨A7, e7, 3, ints (nats (rgC lb c b)) ++ [.int .i64 (b : Int)]⟩
                rw [HC.out, ← nats_snoc, ← ints_snoc, ← e]
                exact h
              go_wp2_with (with_reducible refine wpList_append_one rfl (.tmp 34) (.tmp 36) 22 rfl w.heap.size 3 i0 _ 8 Try.underlying22 hi0 hz0 hz1 hz2 rfl a j cc (ints (nats (rgC lb c b))) rfl Hnt.out Hsl.out ⟨wr.heap.size, 0, none⟩ 1 (.int .i64 (b : Int)) rfl Hc0.out rfl (by omega) (by omega) Hl1.out ?_; intro A7 e7 w7 hO7 hT7 hA7; have H7 := Lib.hid (HGr.out A7 e7 w7 hO7 hT7 hA7); clear hO7 hT7 hA7)
              go_roundg (n - (b + 1))
              case measure => omega
              case rel => exact ⟨b + 1, A7, e7, j + 1, by omega, rfl, by go_num, rfl, by omega, Lib.hid (by rw [HC.out, List.length_append, Hj.out]; rfl), H7.out⟩
            · have t1 : (nth lb b == (c : Int)) = false := by simpa using hlb
              have HC := Lib.hid (rgC_no hlb)
              generalize nth lb b = lv at *
              clear hlb
              go_wp2_with fail
              go_roundg (n - (b + 1))
              case measure => omega
              case rel => exact ⟨b + 1, a, cc, j, by omega, rfl, by go_num, rfl, by omega, Lib.hid (by rw [HC.out]; exact Hj.out), by rw [HC.out]; exact Hh.out⟩
          · obtain rfl : b = n := by omega
            have Hr2 : Hid (Rws (ms ++ [⟨a, cc, 3, ints (nats (rgC lb c b))⟩]) (rgT lb b (c + 1))) := Lib.hid (by rw [HT.out]; exact Hr.out.1.snoc a cc _)
            have Ha := Lib.hid (Hh.out.call ((Below.refl _ _).alloc (Nat.le_refl _) (.cells #[.slice a j cc] 22)))
            have Hc0 : Hid ((wr.alloc (.cells #[.slice a j cc] 22)).cell? ⟨wr.heap.size, 0, none⟩ = some (.slice a j cc)) := Lib.hid ((Row.new wr #[.slice a j cc] 22).cell 0)
            have Hl1 := Lib.hid Ha.out.below.size
            have Hnt : Hid ((ms.map slV).length = k) := Lib.hid (by rw [List.length_map, Hr.out.2])
            have Hsl : Hid (Own (wr.alloc (.cells #[.slice a j cc] 22)) w.heap.size 22 A C (ms.map slV)) := Lib.hid (Ha.out.sl (k := 1) rfl)
            have HGr : Hid (∀ (A7 : Option Addr) (e7 : Nat) (w7 : World), Own w7 w.heap.size 22 A7 e7 (ms.map slV ++ [.slice a j cc]) → Turned (wr.alloc (.cells #[.slice a j cc] 22)) w7 A → (∀ x, A7 = some x → ((wr.alloc (.cells #[.slice a j cc] 22)).heap.size ≤ x.block ∨ ∃ y, A = some y ∧ x = y)) →
                HH w w7 [] (⟨some ⟨bL, oL, none⟩, cL, 3, ints lb⟩ :: ⟨A7, e7, 22, (ms ++ [(⟨a, cc, 3, ints (nats (rgC lb c b))⟩ : SlO)]).map slV⟩ :: (ms ++ [⟨a, cc, 3, ints (nats (rgC lb c b))⟩]))) := Lib.hid fun A7 e7 w7 h1 h2 h3 => by
              have h := Ha.out.grow (k := 1) rfl h1 h2 h3
              have e : (ms ++ [(⟨a, cc, 3, ints (nats (rgC lb c b))⟩ : SlO)]).map slV = ms.map slV ++ [.slice a j cc] := by
                rw [List.map_append]
                show ms.map slV ++ [.slice a (ints (nats (rgC lb c b))).length cc] = _
                rw [ints_length, nats_length, ← Hj.out]
              rw [e]
              exact h
            go_wp2_with (with_reducible refine wpList_append_one rfl (.tmp 38) (.tmp 40) 42 rfl w.heap.size 22 i1 _ 24 Try.underlying42 hi1 hy0 hy1 hy2 rfl A k C (ms.map slV) rfl Hnt.out Hsl.out ⟨wr.heap.size, 0, none⟩ 1 (.slice a j cc) rfl Hc0.out rfl (by omega) (by omega) Hl1.out ?_; intro A7 e7 w7 hO7 hT7 hA7; have H7 := Lib.hid (HGr.out A7 e7 w7 hO7 hT7 hA7); clear hO7 hT7 hA7)
            go_roundg (b - (c + 1))
            case measure => omega
            case rel => exact ⟨c + 1, _, A7, e7, k + 1, by omega, rfl, by go_num, rfl, by omega, Lib.hid ⟨Hr2.out, by rw [List.length_append, Hr.out.2]; rfl⟩, H7.out⟩
      · have t1 : (nth lb c != (c : Int)) = true := by simpa using hlc
        have HT := Lib.hid (rgT_no (n := n) hlc)
        generalize nth lb c = lc at *
        clear hlc
        go_wp2_with fail
        go_roundg (n - (c + 1))
        case measure => omega
        case rel => exact ⟨c + 1, ms, A, C, k, by omega, rfl, by go_num, rfl, by omega, Lib.hid (by rw [HT.out]; exact Hr.out), Hh.out⟩
    · obtain rfl : c = n := by omega
      go_wp2_with fail
      go_ret
      exact ⟨A, C, by rw [← Hr.out.1.1, ← Hr.out.2]; rfl, Hr.out.1.owned (Hh.out.forget (List.sublist_cons_self _ _)), Hh.out.below⟩
set_option maxRecDepth 100000 in
set_option maxHeartbeats 4000000 in
theorem rpart_any (S M : List Int) (L : Int) (aS aM aG : Option Addr) (cS cM cG : Nat) (G : List Nat) (w : World) (hv : vldB S M L = true) (hG : Whole M S.length G) (hS : IntsAt w aS S) (hM : IntsAt w aM M) (hGa : IntsAt w aG (nats G)) :
    Calls Try.prog 55 #[.agg #[.slice aS S.length cS, .slice aM M.length cM, .int .i64 L], .slice aG G.length cG] w fun e w' => ∃ a b c d, e = .returned (.agg #[.slice a G.length c, .slice b (4 * G.length) d, .int .i64 0]) ∧ Own w' w.heap.size 3 a c (ints (partS S G)) ∧ Own w' w.heap.size 3 b d (ints (partM M G)) ∧ Below w.heap.size w w' := by
  have hs := vldB_shape hv
  have hfw := hs.few
  have hGl : G.length ≤ S.length := by
    have := hG.nd.length_le_of_subset (l₂ := List.range S.length) fun c hc => List.mem_range.2 (hG.lt c hc)
    simpa using this
  have mem : ∀ j, j < G.length → G.getD j 0 ∈ G := fun j hj => (part_get hG hj).1
  have HGl : Hid (∀ j, j < G.length → G.getD j 0 < S.length) := Lib.hid fun j hj => hG.lt _ (mem j hj)
  have HMt : Hid (∀ i s, i < G.length → s < 4 → ∃ m k : Nat, nth M (4 * G.getD i 0 + s) = (m : Int) ∧ m / 4 < S.length ∧ nth (numTo G S.length G.length) (m / 4) = (k : Int) ∧ k < 64 ∧ 4 * (k : Int) + (m : Int) % 4 = partV M G (4 * G.getD i 0 + s)) := Lib.hid fun i s hi hs4 => by
    have hc := hG.lt _ (mem i hi)
    have hr := hs.range (4 * G.getD i 0 + s) (by omega)
    have hin := hG.cl _ (mem i hi) (mt M (4 * G.getD i 0 + s) / 4) ⟨s, hs4, rfl⟩
    have hix : idxI G (mt M (4 * G.getD i 0 + s) / 4) < G.length := List.idxOf_lt_length_iff.2 hin
    have hge : G.getD (idxI G (mt M (4 * G.getD i 0 + s) / 4)) 0 = mt M (4 * G.getD i 0 + s) / 4 := by
      rw [List.getD_eq_getElem?_getD, List.getElem?_eq_getElem hix]
      exact List.getElem_idxOf hix
    have hnm := numTo_nth hG.lt hG.nd G.length (Nat.le_refl _) _ hix
    rw [hge] at hnm
    refine ⟨mt M (4 * G.getD i 0 + s), idxI G (mt M (4 * G.getD i 0 + s) / 4), by unfold mt; omega, by unfold mt; omega, hnm, by omega, ?_⟩
    unfold partV; omega
  have hMl := hs.len
  have hmk := run_mk1 (T := 22) (z := .int .i64 0) (bytes := 8) Try.underlying22 Try.info3 rfl S.length S.length (Nat.le_refl _) (by omega) (by omega)
  obtain ⟨i0, hi0, hz0, hz1, hz2⟩ := info_parts Try.info3
  have HS := Lib.hid hS
  have HM := Lib.hid hM
  have HGa := Lib.hid hGa
  have H0 := Lib.hid (((HH.start w).alloc #[.slice aS S.length cS, .slice aM M.length cM, .int .i64 L] 24 rfl rfl).alloc #[.slice none 0 0, .slice none 0 0, .int .i64 0] 24 (b := w.heap.size + 1) (by simp) rfl)
  have H1 := Lib.hid (((((H0.out.alloc (Array.replicate S.length (.int .i64 0)) 3 (b := w.heap.size + 2) (by simp) (vs := ints (numTo G S.length 0)) (by rw [replicate_ints]; rfl)).alloc #[.slice none 0 0, .slice none 0 0, .int .i64 0] 24 (b := w.heap.size + 3) (by simp) rfl)).addNil 3).addNil 3)
  have c0 := H0.out.cell (k := 0) (i := 0) rfl rfl
  have h5 : M.length ≤ 4 * S.length := by omega
  have h6 : 4 * S.length ≤ M.length := by omega
  clear hs hv hS hM hGa hG hMl
  go_enter Try.func55, Try.ntmps55
  go_wp2_with fail
  obtain ⟨v1, hv1⟩ : ∃ v, v = (((w.alloc (Obj.cells #[.slice aS S.length cS, .slice aM M.length cM, .int .i64 L] 24)).alloc (Obj.cells #[.slice none 0 0, .slice none 0 0, .int .i64 0] 24)).alloc (Obj.cells (Array.replicate S.length (Value.int IntKind.i64 0)) 3)).alloc (Obj.cells #[.slice none 0 0, .slice none 0 0, .int .i64 0] 24) := ⟨_, rfl⟩
  rw [← hv1]
  rw [← hv1] at H1
  have H2 : Hid (HH w v1 [(w.heap.size, rowO 24 [.slice aS S.length cS, .slice aM M.length cM, .int .i64 L]), (w.heap.size + 1, rowO 24 [.slice none 0 0, .slice none 0 0, .int .i64 0]), (w.heap.size + 2, rowO 3 (ints (numTo G S.length 0))), (w.heap.size + 3, rowO 24 [.slice none 0 0, .slice none (0) 0, .int .i64 0])] [⟨none, 0, 3, ints (partS S (G.take 0))⟩, ⟨none, 0, 3, ints (partMk M G (0))⟩]) := Lib.hid H1.out
  clear hv1 H1 H0 c0 hmk
  go_loopg [7] G.length (fun g v wr => ∃ (i : Nat) (a : Option Addr) (c : Nat), i ≤ G.length ∧ g = G.length - i ∧ v = .int .i64 i ∧ HH w wr [(w.heap.size, rowO 24 [.slice aS S.length cS, .slice aM M.length cM, .int .i64 L]), (w.heap.size + 1, rowO 24 [.slice none 0 0, .slice none 0 0, .int .i64 0]), (w.heap.size + 2, rowO 3 (ints (numTo G S.length i))), (w.heap.size + 3, rowO 24 [.slice a i c, .slice none (0) 0, .int .i64 0])] [⟨a, c, 3, ints (partS S (G.take i))⟩, ⟨none, 0, 3, ints (partMk M G (0))⟩])
  case atStart => exact ⟨0, none, 0, Nat.zero_le _, rfl, rfl, H2.out⟩
  case round =>
    obtain ⟨i, a, c, hi, rfl, rfl, hh⟩ := hrel
    have Hh := Lib.hid hh
    clear hh H2
    by_cases hil : i < G.length
    · obtain ⟨b2, o2, rfl, _, hcR⟩ := (HGa.out.later Hh.out.below).open (by rw [nats_length]; omega)
      have hcx := hcR i (by rw [nats_length]; exact hil)
      rw [nth_nats _ _ hil] at hcx
      have hg := HGl.out i hil
      have HN := Lib.hid (Hh.out.setInt (k := 2) rfl (G.getD i 0) (i : Int))
      have Hnx : Hid ((numTo G S.length i).set (G.getD i 0) (i : Int) = numTo G S.length (i + 1)) := Lib.hid rfl
      rw [Hnx.out] at HN
      have hcv := Hh.out.int (k := 2) rfl (G.getD i 0) (by rw [numTo_len]; exact hg)
      have hfv := Hh.out.frozen (k := 2) rfl (G.getD i 0)
      have HPs : Hid (partS S (G.take (i + 1)) = partS S (G.take i) ++ [nth S (G.getD i 0)]) := Lib.hid (partS_take hil)
      have Hsl : Hid ((ints (partS S (G.take i))).length = i) := Lib.hid (by rw [ints_length, partS_len, List.length_take]; omega)
      obtain ⟨v, hv⟩ : ∃ v, v = G.getD i 0 := ⟨_, rfl⟩
      rw [← hv] at hcx hg HN hcv hfv HPs
      have HV := Lib.hid hv
      clear hv
      have e1 : decide ((v : Int) < 0) = false := decide_eq_false (by omega)
      have e2 : decide ((S.length : Int) ≤ (v : Int)) = false := decide_eq_false (by omega)
      clear hcR Hnx
      go_upto_region 7 with fail
      clear hcx hcv hfv Hh
      obtain ⟨V, hV⟩ : ∃ V, V = wr.setCell ⟨w.heap.size + 2, v, none⟩ (.int .i64 (i : Int)) := ⟨_, rfl⟩
      rw [← hV]
      rw [← hV] at HN
      clear hV
      obtain ⟨b2', o2', e, _, hcR⟩ := (HGa.out.later HN.out.below).open (by rw [nats_length]; omega)
      cases e
      have hcx := hcR i (by rw [nats_length]; exact hil)
      rw [nth_nats _ _ hil, ← HV.out] at hcx
      clear hcR
      obtain ⟨b3, o3, rfl, _, hcS⟩ := (HS.out.later HN.out.below).open (by omega)
      have hcs := hcS v hg
      have Ha := Lib.hid (HN.out.call ((Below.refl _ _).alloc (Nat.le_refl _) (.cells #[.int .i64 (nth S v)] 3))).drew
      have c1 := HN.out.cell (k := 3) (i := 0) rfl rfl
      have c2 := HN.out.cell (k := 0) (i := 0) rfl rfl
      have c3 := Ha.out.cell (k := 3) (i := 0) rfl rfl
      have c4 := Ha.out.cell (k := 0) (i := 0) rfl rfl
      have Hc0 : Hid ((V.alloc (.cells #[.int .i64 (nth S v)] 3)).drew.cell? ⟨V.heap.size, 0, none⟩ = some (.int .i64 (nth S v))) := Lib.hid ((Row.new V #[.int .i64 (nth S v)] 3).cell 0)
      have Hl1 := Lib.hid Ha.out.below.size
      generalize nth S v = sv at *
      clear hcS
      go_region_law ((refine step_append_one rfl (.tmp 29) (.tmp 38) rfl w.heap.size i0 hi0 hz0 hz1 hz2 a i c (ints (partS S (G.take i))) rfl Hsl.out (Ha.out.sl (k := 0) rfl) ⟨V.heap.size, 0, none⟩ 1 (.int .i64 sv) rfl Hc0.out rfl (by omega) Hl1.out ?_); intro A3 e3 w5 hO2 hT2 hA2; have H6 := Ha.out.grow (k := 0) rfl hO2 hT2 hA2; have hd := H6.cell (k := 3) (i := 0) rfl rfl; have hf := H6.frozen (k := 3) rfl 0; have H7 := Lib.hid (H6.set (k := 3) rfl 0 (.slice A3 (i + 1) e3)); clear H6 hO2 hT2 hA2)
      all_goals
        clear hd hf c1 c2 c3 c4 hcx hcs Hc0 Hl1 Ha
        go_wp2_with fail
        go_roundg (G.length - (i + 1))
        case measure => omega
        case rel =>
          refine ⟨i + 1, A3, e3, by omega, rfl, by go_num, ?_⟩
          rw [HPs.out, ← ints_snoc]
          exact H7.out
    · obtain rfl : i = G.length := by omega
      go_wp2_with fail
      go_loopg [8] G.length (fun g v wr => ∃ (i : Nat) (b : Option Addr) (d : Nat), i ≤ G.length ∧ g = G.length - i ∧ v = .int .i64 i ∧ HH w wr [(w.heap.size, rowO 24 [.slice aS S.length cS, .slice aM M.length cM, .int .i64 L]), (w.heap.size + 1, rowO 24 [.slice none 0 0, .slice none 0 0, .int .i64 0]), (w.heap.size + 2, rowO 3 (ints (numTo G S.length G.length))), (w.heap.size + 3, rowO 24 [.slice a G.length c, .slice b (4 * i) d, .int .i64 0])] [⟨a, c, 3, ints (partS S (G.take G.length))⟩, ⟨b, d, 3, ints (partMk M G (4 * i))⟩])
      case atStart => exact ⟨0, none, 0, Nat.zero_le _, rfl, rfl, Hh.out⟩
      case round =>
        obtain ⟨i, b, d, hi, rfl, rfl, hh⟩ := hrel
        replace Hh := Lib.hid hh
        clear hh
        by_cases hil : i < G.length
        · have hg := HGl.out i hil
          have HMi : Hid (∀ s, s < 4 → ∃ m k : Nat, nth M (4 * G.getD i 0 + s) = (m : Int) ∧ m / 4 < S.length ∧ nth (numTo G S.length G.length) (m / 4) = (k : Int) ∧ k < 64 ∧ 4 * (k : Int) + (m : Int) % 4 = partV M G (4 * G.getD i 0 + s)) := Lib.hid fun s h => HMt.out i s hil h
          have HPm : Hid (∀ s, s < 4 → partMk M G (4 * i + s + 1) = partMk M G (4 * i + s) ++ [partV M G (4 * G.getD i 0 + s)]) := Lib.hid fun s h => by
            rw [partMk_succ, show (4 * i + s) / 4 = i by omega, show (4 * i + s) % 4 = s by omega]
          obtain ⟨v, hv⟩ : ∃ v, v = G.getD i 0 := ⟨_, rfl⟩
          rw [← hv] at hg HMi HPm
          have HV := Lib.hid hv
          clear hv
          go_wp2_with fail
          go_loopg [9] 4 (fun g v wx => ∃ (s : Nat) (b : Option Addr) (d : Nat), s ≤ 4 ∧ g = 4 - s ∧ v = .int .i64 s ∧ HH w wx [(w.heap.size, rowO 24 [.slice aS S.length cS, .slice aM M.length cM, .int .i64 L]), (w.heap.size + 1, rowO 24 [.slice none 0 0, .slice none 0 0, .int .i64 0]), (w.heap.size + 2, rowO 3 (ints (numTo G S.length G.length))), (w.heap.size + 3, rowO 24 [.slice a G.length c, .slice b (4 * i + s) d, .int .i64 0])] [⟨a, c, 3, ints (partS S (G.take G.length))⟩, ⟨b, d, 3, ints (partMk M G (4 * i + s))⟩])
          case atStart => exact ⟨0, b, d, by omega, rfl, rfl, Hh.out⟩
          case round =>
            obtain ⟨s, b, d, hs4, rfl, rfl, hh⟩ := hrel
            replace Hh := Lib.hid hh
            clear hh
            by_cases hsl : s < 4
            · obtain ⟨m, k, hm, hmn, hk, hk64, hpv⟩ := HMi.out s hsl
              have Hpm := Lib.hid (HPm.out s hsl)
              have Hpl : Hid ((ints (partMk M G (4 * i + s))).length = 4 * i + s) := Lib.hid (by rw [ints_length, partMk_len])
              have hm255 : m ≤ 255 := by omega
              obtain ⟨q4, k4, r4, V4, w1, w2, w3, w3', w4, hq4, hV4⟩ := part_num k m hk64 hm255
              rw [← hpv, ← hV4] at Hpm
              rw [← hq4] at hmn hk
              obtain ⟨b2, o2, rfl, _, hcR⟩ := (HGa.out.later Hh.out.below).open (by rw [nats_length]; omega)
              have hcx := hcR i (by rw [nats_length]; exact hil)
              rw [nth_nats _ _ hil, ← HV.out] at hcx
              clear hcR
              obtain ⟨b5, o5, rfl, _, hcM⟩ := (HM.out.later Hh.out.below).open (by omega)
              have hcm := hcM (4 * v + s) (by omega)
              rw [hm] at hcm
              have c2 := Hh.out.cell (k := 0) (i := 1) rfl rfl
              obtain ⟨vs, hvs⟩ : ∃ vs, vs = 4 * v + s := ⟨_, rfl⟩
              have x1 : IntKind.i64.wrap (4 * (v : Int)) = ((4 * v : Nat) : Int) := by rw [wrapi_mid (by omega) (by omega)]; omega
              have x2 : IntKind.i64.wrap (((4 * v : Nat) : Int) + (s : Int)) = (vs : Int) := by rw [wrapi_mid (by omega) (by omega)]; omega
              have x3 : vs < M.length := by omega
              rw [← hvs] at hcm
              have Hd := Lib.hid Hh.out.drew
              clear hcM hpv hm hq4 hV4 hvs
              generalize hv4 : 4 * v = v4 at *
              clear hv4
              go_upto_region 14 with fail
              go_region
              all_goals
                clear c2 hcx hcm x1 x2 x3
                obtain ⟨W, hW⟩ : ∃ W, W = wr.drew := ⟨_, rfl⟩
                rw [← hW]
                rw [← hW] at Hd
                clear hW Hh
                have hnk := Hd.out.int (k := 2) rfl q4 (by rw [numTo_len]; exact hmn)
                rw [hk] at hnk
                have Ha := Lib.hid (Hd.out.call ((Below.refl _ _).alloc (Nat.le_refl _) (.cells #[.int .i64 (V4 : Int)] 3))).drew
                have c1 := Hd.out.cell (k := 3) (i := 1) rfl rfl
                have c3 := Ha.out.cell (k := 3) (i := 1) rfl rfl
                have hnk2 := Ha.out.int (k := 2) rfl q4 (by rw [numTo_len]; exact hmn)
                rw [hk] at hnk2
                have Hc0 : Hid ((W.alloc (.cells #[.int .i64 (V4 : Int)] 3)).drew.cell? ⟨W.heap.size, 0, none⟩ = some (.int .i64 (V4 : Int))) := Lib.hid ((Row.new W #[.int .i64 (V4 : Int)] 3).cell 0)
                have Hl1 := Lib.hid Ha.out.below.size
                clear hk
                generalize partV M G (v4 + s) = pv at *
                go_wp2_with fail
                go_region_law ((refine step_append_one rfl (.tmp 63) (.tmp 73) rfl w.heap.size i0 hi0 hz0 hz1 hz2 b (4 * i + s) d (ints (partMk M G (4 * i + s))) rfl Hpl.out (Ha.out.sl (k := 1) rfl) ⟨W.heap.size, 0, none⟩ 1 (.int .i64 (V4 : Int)) rfl Hc0.out rfl (by omega) Hl1.out ?_); intro A5 e5 w6 hO2 hT2 hA2; have H6 := Ha.out.grow (k := 1) rfl hO2 hT2 hA2; have hd := H6.cell (k := 3) (i := 1) rfl rfl; have hf := H6.frozen (k := 3) rfl 1; have H9 := Lib.hid (H6.set (k := 3) rfl 1 (.slice A5 (4 * i + s + 1) e5)); clear H6 hO2 hT2 hA2)
                all_goals
                  clear hd hf c1 c3 hnk hnk2 Hc0 Hl1 Ha
                  go_wp2_with fail
                  go_roundg (4 - (s + 1))
                  case measure => omega
                  case rel =>
                    refine ⟨s + 1, A5, e5, by omega, rfl, by go_num, ?_⟩
                    have h := H9.out
                    have e : 4 * i + (s + 1) = 4 * i + s + 1 := by omega
                    rw [e, Hpm.out, ← ints_snoc]
                    exact h
            · obtain rfl : s = 4 := by omega
              go_wp2_with fail
              go_roundg (G.length - (i + 1))
              case measure => omega
              case rel =>
                refine ⟨i + 1, b, d, by omega, rfl, by go_num, ?_⟩
                rw [show 4 * (i + 1) = 4 * i + 4 by omega]
                exact Hh.out
        · obtain rfl : i = G.length := by omega
          have c1 := Hh.out.cell (k := 3) (i := 0) rfl rfl
          have c2 := Hh.out.cell (k := 3) (i := 1) rfl rfl
          have c3 := Hh.out.cell (k := 3) (i := 2) rfl rfl
          have d1 := Hh.out.cell (k := 1) (i := 0) rfl rfl
          have d2 := Hh.out.cell (k := 1) (i := 1) rfl rfl
          have d3 := Hh.out.cell (k := 1) (i := 2) rfl rfl
          have f1 := Hh.out.frozen (k := 1) rfl 0
          have f2 := Hh.out.frozen (k := 1) rfl 1
          have f3 := Hh.out.frozen (k := 1) rfl 2
          have H9 := ((Hh.out.set (k := 1) rfl 0 (.slice a G.length c)).set (k := 1) rfl 1 (.slice b (4 * G.length) d)).set (k := 1) rfl 2 (.int .i64 0)
          have hF0 := H9.cell (k := 1) (i := 0) rfl rfl
          have hF1 := H9.cell (k := 1) (i := 1) rfl rfl
          have hF2 := H9.cell (k := 1) (i := 2) rfl rfl
          have Hfin := Lib.hid H9
          clear H9
          go_wp2_with fail
          refine bodyPost_ret (v := .agg #[.slice a G.length c, .slice b (4 * G.length) d, .int .i64 0]) (by simp [results, Try.results55, go_sem, hF0, hF1, hF2]) rfl ?_
          refine ⟨_, _, _, _, rfl, ?_, Hfin.out.sl (k := 1) rfl, Hfin.out.below⟩
          have h := Hfin.out.sl (k := 0) rfl
          rw [List.take_length] at h
          exact h
end Go.Proofs.Ytmjoijfafachhaa

namespace Go.Proofs.Ytmjoijfafachhaa
open Go Go.RowKit
theorem cell_keptB {w w' : World} {b : Nat} (h : w'.heap[b]? = w.heap[b]?) {i : Nat} : w'.cell? ⟨b, i, none⟩ = w.cell? ⟨b, i, none⟩ := by simp [World.cell?, h]
end Go.Proofs.Ytmjoijfafachhaa

