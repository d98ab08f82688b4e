/- Diagrams compared: Ints and Equal of the reference, diagram.Equal, slices.EqualFunc, same of law07; the number of components. canon.Code: the code of a diagram. The walk of diagram.Renumber. The walks of strings.Builder's copyCheck, WriteString and WriteByte at a builder of the call's own that lies ahead of blocks which stay. canon.Same: two diagrams are valid and have the same code. -/
import Derived.WalkKit
import Derived.WalkSpells
import Derived.WalkLawsBesides
import Derived.Deep.AppendSrc
import Derived.Deep.LoopGhost
import Derived.Deep.QuietTactic
import Derived.Deep.RegionWith
import Derived.Deep.DeepMust
import Derived.Deep.DeepFit
import Derived.BigQuiet
import Derived.Lib.Hide
import Derived.Outline
import Derived.Test.YtmhhjchnjaefhaaDoorProg
import Derived.Deep.Matrix
import Derived.Deep.DeepCutAuto
import Derived.Deep.RegionLaw
import Derived.Deep.RegionHeld3
import Derived.Shelf.Small.Bits
import Derived.Shelf.Small.Wraps
import Derived.Shelf.Strconv.Itoa0
import Derived.Shelf.Sort.Plain
import Derived.Shelf.Slices.Turned
import Derived.Shelf.Slices.Equal
import Derived.Ground.Names2Prog
import Derived.Shelf.Slices.Clone
import Derived.Shelf.Slices.CompactI
import Derived.Shelf.Slices.SearchI
import Derived.Shelf.Slices.Cells
import Derived.Shelf.Slices.In.SortNone
import Derived.Shelf.Slices.Empties2
import Derived.Ground.SlgnProg
import Derived.Shelf.SlicesE.Clone
import Derived.Sort.OwnSortedInts
import Derived.Lib.AppendZeros
import Derived.Deep.RegionHeld
import Derived.Shelf.Strings.Builder1
import Derived.Shelf.Strings.BuilderF
import Derived.Shelf.Strings.BuilderK
import Derived.Shelf.Strconv.Itoa1
import Derived.Shelf.LaysM
import Derived.Shelf.Strconv.Itoa2
import Derived.Shelf.Strconv.Itoa3
import Derived.Lib.SliceRun
import Derived.Lib.Builder
import Derived.Lib.AppendStr
import Derived.Lib.Walk
import Derived.Laws.Externs
import Derived.Test.YtmhhjchnjaefhaaDoorTAa
import Derived.Test.YtmhhjchnjaefhaaDoorTAc
import Derived.Test.YtmhhjchnjaefhaaDoorTAd
import Derived.Test.YtmhhjchnjaefhaaDoorTAe
import Derived.Test.YtmhhjchnjaefhaaDoorTAf
import Derived.Test.YtmhhjchnjaefhaaDoorTAg
import Derived.Test.YtmhhjchnjaefhaaDoorTAh
import Derived.Test.YtmhhjchnjaefhaaDoorTAi
import Derived.Test.YtmhhjchnjaefhaaDoorTAj
import Derived.Test.YtmhhjchnjaefhaaDoorTAm
import Derived.Test.YtmhhjchnjaefhaaDoorTAb
import Derived.Test.YtmhhjchnjaefhaaDoorTAk
import Derived.Test.YtmhhjchnjaefhaaDoorTAl
namespace Go.Proofs.YtmhhjchnjaefhaaDoor
open Go Go.RowKit
theorem list_ext_nth {xs ys : List Int} (hl : xs.length = ys.length) (h : ∀ i, i < xs.length → nth xs i = nth ys i) : xs = ys := by
  refine List.ext_getElem hl fun i h1 h2 => ?_
  have := h i h1
  simpa [nth, h1, h2] using this
set_option maxRecDepth 100000 in
set_option maxHeartbeats 2000000 in
theorem ints_any (xs ys : List Int) (a b : Option Addr) (c d : Nat) (w : World) (hx : xs.length ≤ 1000000000) (hA : IntsAt w a xs) (hB : IntsAt w b ys) :
    Calls Tryd.prog 30 #[.slice a xs.length c, .slice b ys.length d] w fun e w' => e = .returned (.bool (decide (xs = ys))) ∧ ∃ m, w' = w.drewN m := by
  by_cases hl : xs.length = ys.length
  · have d1 : ((xs.length : Int) != (ys.length : Int)) = false := by rw [hl]; simp
    have hl1 : xs.length ≤ ys.length := by omega
    have HA := Lib.hid hA
    have HB := Lib.hid hB
    have Hl := Lib.hid hl
    clear hl hA hB
    go_enter Tryd.func30, Tryd.ntmps30
    go_wp2_with fail
    go_loopg [5] xs.length (fun g i wr => ∃ k q : Nat, k ≤ xs.length ∧ g = xs.length - k ∧ i = .int .i64 k ∧ wr = w.drewN q ∧ ∀ j, j < k → nth xs j = nth ys j)
    case atStart => exact ⟨0, 0, Nat.zero_le _, rfl, rfl, rfl, fun j hj => by omega⟩
    case round =>
      obtain ⟨k, q, hk, rfl, rfl, rfl, he⟩ := hrel
      have He := Lib.hid he
      clear he
      by_cases hlt : k < xs.length
      · obtain ⟨ba, oa, rfl, _, hca⟩ := HA.out.open (by omega)
        obtain ⟨bb, ob, rfl, _, hcb⟩ := HB.out.open (by have := Hl.out; omega)
        have h1 := hca k hlt
        have h2 := hcb k (by have := Hl.out; omega)
        clear hca hcb
        by_cases heq : nth xs k = nth ys k
        · have t1 : (nth xs k != nth ys k) = false := by rw [heq]; simp
          have Heq := Lib.hid heq
          clear heq
          go_wp2_with fail
          go_quiet (fail)
          go_wp2_with fail
          go_roundg (xs.length - (k + 1))
          case measure => omega
          case rel =>
            refine ⟨k + 1, q + nq, by omega, rfl, by go_num, rfl, fun j hj => ?_⟩
            rcases Nat.lt_or_ge j k with h | h
            · exact He.out j h
            · obtain rfl : j = k := by omega
              exact Heq.out
        · have t1 : (nth xs k != nth ys k) = true := by simpa using heq
          have Hf : Hid (decide (xs = ys) = false) := Lib.hid (decide_eq_false fun e => heq (by rw [e]))
          clear heq
          go_wp2_with fail
          go_quiet (fail)
          go_wp2_with fail
          go_ret
          rw [Hf.out]
          exact ⟨rfl, q + nq, World.drewN_drewN _ _ _⟩
      · obtain rfl : k = xs.length := by omega
        have Hf : Hid (decide (xs = ys) = true) := Lib.hid (decide_eq_true (list_ext_nth Hl.out He.out))
        go_wp2_with fail
        go_ret
        rw [Hf.out]
        exact ⟨rfl, _, rfl⟩
  · have d1 : ((xs.length : Int) != (ys.length : Int)) = true := by rw [bne_iff_ne]; omega
    have hf : decide (xs = ys) = false := decide_eq_false fun e => hl (by rw [e])
    rw [hf]
    clear hl hf hA hB
    go_enter Tryd.func30, Tryd.ntmps30
    go_wp2_with fail
    go_ret
    exact ⟨rfl, 0, rfl⟩
/-- A list of diagrams that is read. -/
def RdD (w : World) (A : Option Addr) (ds : List Dgm) : Prop := ∀ (i : Nat) (d : Dgm), ds[i]? = some d → ∃ b o a c e f, A = some ⟨b, o, none⟩ ∧ w.cell? ⟨b, o + i * 3, none⟩ = some (.slice a d.1.length c) ∧ w.cell? ⟨b, o + i * 3 + 1, none⟩ = some (.slice e d.2.1.length f) ∧ w.cell? ⟨b, o + i * 3 + 2, none⟩ = some (.int .i64 d.2.2) ∧ IntsAt w a d.1 ∧ IntsAt w e d.2.1
theorem DLO.rd {w : World} {B B0 : Nat} {A : Option Addr} {C : Nat} {ds : List Dgm} (h : DLO w B B0 A C ds) : RdD w A ds := fun i d hd => by
  have hi : i < ds.length := (List.getElem?_eq_some_iff.1 hd).1
  obtain ⟨b, o, rfl, hc⟩ := h.open (by omega)
  obtain ⟨a, c, e, f, h1, h2, h3, h4, h5⟩ := hc i d hd
  exact ⟨b, o, a, c, e, f, rfl, h1, h2, h3, h4.at, h5.at⟩
theorem RdD.later {w w' : World} {A : Option Addr} {ds : List Dgm} (h : RdD w A ds) (hb : Below w.heap.size w w') : RdD w' A ds := fun i d hd => by
  obtain ⟨b, o, a, c, e, f, rfl, h1, h2, h3, h4, h5⟩ := h i d hd
  exact ⟨b, o, a, c, e, f, rfl, (hb.cell (p := ⟨b, o + i * 3, none⟩) (World.block_lt_of_cell? _ _ h1)).trans h1, (hb.cell (p := ⟨b, o + i * 3 + 1, none⟩) (World.block_lt_of_cell? _ _ h2)).trans h2, (hb.cell (p := ⟨b, o + i * 3 + 2, none⟩) (World.block_lt_of_cell? _ _ h3)).trans h3, h4.later hb, h5.later hb⟩
end Go.Proofs.YtmhhjchnjaefhaaDoor


namespace Go.Proofs.YtmhhjchnjaefhaaDoor
open Go Go.RowKit
theorem CellsOf.rd {w : World} {B B0 : Nat} {E : TypeId} {A : Option Addr} {c : Nat} {vs : List Value} {ds : List Dgm} (h : CellsOf w B0 vs ds) (ho : Own w B E A c vs) : RdD w A ds := fun i d hd => by
  have hi : i < ds.length := (List.getElem?_eq_some_iff.1 hd).1
  have hl := h.1
  obtain ⟨b, o, rfl, _, _, hc, _⟩ := ho.open (by omega)
  obtain ⟨a, c, e, f, h1, h2, h3, h4, h5⟩ := h.2 i d hd
  exact ⟨b, o, a, c, e, f, rfl, hc _ _ h1, by rw [Nat.add_assoc]; exact hc _ _ h2, by rw [Nat.add_assoc]; exact hc _ _ h3, h4.at, h5.at⟩
set_option maxRecDepth 100000 in
set_option maxHeartbeats 1000000 in
theorem code_no (S M : List Int) (L : Int) (aS aM : Option Addr) (cS cM : Nat) (w : World) (hSl : S.length ≤ 1000000000) (hMl : M.length ≤ 1000000000) (hv : vldB S M L = false) (hS : IntsAt w aS S) (hM : IntsAt w aM M) :
    Calls Tryd.prog 25 #[.agg #[.slice aS S.length cS, .slice aM M.length cM, .int .i64 L]] w fun e w' => e = .returned (.slice none 0 0) ∧ Below w.heap.size w w' := by
  have HV : Hid (∀ W', Below w.heap.size w W' → Calls Tryd.prog 18 #[.agg #[.slice aS S.length cS, .slice aM M.length cM, .int .i64 L]] W' fun e w' => e = .returned (.bool false) ∧ Below W'.heap.size W' w') := Lib.hid fun W' h => by
    have g := valid_any S M L aS aM cS cM W' (by omega) (by omega) (hS.later h) (hM.later h)
    rw [hv] at g; exact g
  have H0 := Lib.hid ((HH.start w).alloc #[.slice aS S.length cS, .slice aM M.length cM, .int .i64 L] 24 rfl rfl)
  clear hv hS hM
  generalize S.length = n at *
  generalize M.length = N at *
  go_enter Tryd.func25, Tryd.ntmps25
  have k00 := H0.out.cell (k := 0) (i := 0) rfl rfl
  have k01 := H0.out.cell (k := 0) (i := 1) rfl rfl
  have k02 := H0.out.cell (k := 0) (i := 2) rfl rfl
  go_wp2_with fail
  clear k00 k01 k02
  refine (HV.out _ H0.out.below).mono ?_
  rintro e w1 ⟨rfl, hb⟩
  have H1 := Lib.hid (H0.out.call hb)
  clear hb H0 
  go_wp2_with fail
  go_ret
  exact ⟨rfl, H1.out.below⟩
set_option maxRecDepth 100000 in
set_option maxHeartbeats 1000000 in
theorem code_yes (S M : List Int) (L : Int) (aS aM : Option Addr) (cS cM : Nat) (w : World) (hv : vldB S M L = true) (h20 : S.length ≤ 20) (hS : IntsAt w aS S) (hM : IntsAt w aM M) :
    Calls Tryd.prog 25 #[.agg #[.slice aS S.length cS, .slice aM M.length cM, .int .i64 L]] w fun e w' => ∃ a c, e = .returned (.slice a (codeOf S M L).length c) ∧ Own w' w.heap.size 3 a c (ints (codeOf S M L)) ∧ Below w.heap.size w w' := by
  have hs := vldB_shape hv
  have hMl := hs.len
  have HV : Hid (∀ W', Below w.heap.size w W' → Calls Tryd.prog 18 #[.agg #[.slice aS S.length cS, .slice aM M.length cM, .int .i64 L]] W' fun e w' => e = .returned (.bool true) ∧ Below W'.heap.size W' w') := Lib.hid fun W' h => by
    have g := valid_any S M L aS aM cS cM W' (by omega) (by omega) (hS.later h) (hM.later h)
    rw [hv] at g; exact g
  have HP : Hid (∀ W', Below w.heap.size w W' → Calls Tryd.prog 44 #[.agg #[.slice aS S.length cS, .slice aM M.length cM, .int .i64 L]] W' fun e w' => ∃ A C ys, e = .returned (.slice A ys.length C) ∧ Hid (codeY L ys ys.length = codeOf S M L ∧ ys.length ≤ 20 ∧ ∀ i, i < ys.length → (ys.getD i ([], [], 0)).1.length ≤ 100 ∧ (ys.getD i ([], [], 0)).2.1.length ≤ 20 ∧ (codeY L ys i).length ≤ 2100) ∧ RdD w' A ys ∧ Below W'.heap.size W' w') := Lib.hid fun W' h => by
    refine (cpieces_any S M L aS aM cS cM W' hv h20 (hS.later h) (hM.later h)).mono ?_
    rintro e w' ⟨A, C, ys, vs, rfl, hsr, ho, hc, hb⟩
    have hfew : ∀ p, p ∈ ys → p.1.length ≤ 100 ∧ p.2.1.length ≤ 20 := fun p hp => by
      have := piece_few (fun x hx => hs.mt_lt hx) hsr hp
      omega
    have hyl : ys.length ≤ 20 := by
      rw [hsr.perm.length_eq, List.length_map]; exact Nat.le_trans (grp_len M S.length) h20
    refine ⟨A, C, ys, rfl, Lib.hid ⟨codeY_all hsr, hyl, fun i hi => ?_⟩, hc.rd ho, hb⟩
    have hm : ys.getD i ([], [], 0) ∈ ys := by rw [List.getD_eq_getElem?_getD, List.getElem?_eq_getElem hi]; exact List.getElem_mem _
    have h3 := codeY_few L (fun p hp => (hfew p hp).1) i (Nat.le_of_lt hi)
    have h4 := Nat.mul_le_mul (show i ≤ 20 by omega) (Nat.le_refl (100 + 1))
    exact ⟨(hfew _ hm).1, (hfew _ hm).2, by omega⟩
  obtain ⟨i0, hi0, hz0, hz1, hz2⟩ := info_parts Tryd.info3
  have H0 := Lib.hid ((HH.start w).alloc #[.slice aS S.length cS, .slice aM M.length cM, .int .i64 L] 24 rfl rfl)
  clear hv hS hM hs hMl h20
  generalize codeOf S M L = CO at *
  generalize S.length = n at *
  generalize M.length = N at *
  go_enter Tryd.func25, Tryd.ntmps25
  have k00 := H0.out.cell (k := 0) (i := 0) rfl rfl
  have k01 := H0.out.cell (k := 0) (i := 1) rfl rfl
  have k02 := H0.out.cell (k := 0) (i := 2) rfl rfl
  go_wp2_with fail
  clear k00 k01 k02
  refine (HV.out _ H0.out.below).mono ?_
  rintro e w1 ⟨rfl, hb⟩
  have H1 := Lib.hid (H0.out.call hb)
  clear hb H0 HV
  have k00 := H1.out.cell (k := 0) (i := 0) rfl rfl
  have k01 := H1.out.cell (k := 0) (i := 1) rfl rfl
  have k02 := H1.out.cell (k := 0) (i := 2) rfl rfl
  go_wp2_with fail
  clear k00 k01 k02
  refine (HP.out _ H1.out.below).mono ?_
  rintro e w2 ⟨A, C, ys, rfl, HY, hrd, hb⟩
  have H2 := Lib.hid (H1.out.call hb)
  have HR := Lib.hid hrd
  clear hrd hb H1 HP
  have hyl : ys.length ≤ 20 := HY.out.2.1
  have HBw := Lib.hid H2.out.below
  have k2 := H2.out.cell (k := 0) (i := 2) rfl rfl
  have J0 : Hid (HH w2 (w2.alloc (.cells #[.int .i64 L, .int .i64 (ys.length : Int)] 3)) [] [⟨some ⟨w2.heap.size, 0, none⟩, 2, 3, ints (codeY L ys 0)⟩]) := Lib.hid ((HH.start w2).addSl ((Below.refl _ _).alloc (Nat.le_refl _) _) (Own.made #[.int .i64 L, .int .i64 (ys.length : Int)] (Nat.le_refl _)))
  go_wp2_with fail
  clear k2 H2
  go_loopg [19, 4] ys.length (fun g v s4 wr => ∃ (i : Nat) (A2 : Option Addr) (d : Nat), i ≤ ys.length ∧ g = ys.length - i ∧ v = .int .i64 i ∧ s4 = .slice A2 (codeY L ys i).length d ∧ HH w2 wr [] [⟨A2, d, 3, ints (codeY L ys i)⟩])
  case atStart => exact ⟨0, _, 2, Nat.zero_le _, rfl, rfl, rfl, J0.out⟩
  case round =>
    obtain ⟨i, A2, d, hi, rfl, rfl, rfl, hh⟩ := hrel
    have Jr := Lib.hid hh
    clear hh J0
    by_cases hil : i < ys.length
    · obtain ⟨b, o, a, c, e, f, rfl, g1, g2, g3, h4, h5⟩ := HR.out i _ (getD_some (d := ([], [], 0)) hil)
      have h1 := (Jr.out.below.cell (p := ⟨b, o + i * 3, none⟩) (World.block_lt_of_cell? _ _ g1)).trans g1
      have h2 := (Jr.out.below.cell (p := ⟨b, o + i * 3 + 1, none⟩) (World.block_lt_of_cell? _ _ g2)).trans g2
      have h3 := (Jr.out.below.cell (p := ⟨b, o + i * 3 + 2, none⟩) (World.block_lt_of_cell? _ _ g3)).trans g3
      clear g1 g2 g3
      have HC1 := Lib.hid (codeY_succ L hil)
      obtain ⟨hb1, hb2, hb3⟩ := HY.out.2.2 i hil
      generalize ys.getD i ([], [], 0) = dd at *
      obtain ⟨Xd, Yd, r3⟩ := dd
      dsimp only at *
      have HI := Lib.hid h4
      clear h4 h5
      have hX : Hid ((ints Xd).length = Xd.length * 1) := Lib.hid (by rw [ints_length, Nat.mul_one])
      have Hcy : Hid ((ints (codeY L ys i)).length = (codeY L ys i).length) := Lib.hid (by rw [ints_length])
      generalize hl2 : Yd.length = l2 at *
      have HC2 : Hid (codeY L ys (i + 1) = codeY L ys i ++ [(l2 : Int)] ++ Xd) := HC1
      clear hl2 HC1
      have Hl2 : Hid ((codeY L ys (i + 1)).length = (codeY L ys i).length + 1 + Xd.length) := Lib.hid (by rw [HC2.out, List.length_append, List.length_append]; rfl)
      generalize codeY L ys i = cy at *
      generalize cy.length = ly at *
      generalize Xd.length = l1 at *
      have K0 := Lib.hid (Jr.out.alloc #[.slice a l1 c, .slice e l2 f, .int .i64 r3] 51 (b := wr.heap.size) rfl rfl)
      go_upto_region 8 with fail
      clear h1 h2 h3 Jr
      generalize wr.alloc (.cells #[.slice a l1 c, .slice e l2 f, .int .i64 r3] 51) = v1 at *
      generalize wr.heap.size = q at *
      have y1 := K0.out.cell (k := 0) (i := 1) rfl rfl
      have Ja := Lib.hid (K0.out.call ((Below.refl _ _).alloc (Nat.le_refl _) (.cells #[.int .i64 (l2 : Int)] 3)))
      have Hc0 : Hid ((v1.alloc (.cells #[.int .i64 (l2 : Int)] 3)).cell? ⟨v1.heap.size, 0, none⟩ = some (.int .i64 (l2 : Int))) := Lib.hid ((Row.new v1 #[.int .i64 (l2 : Int)] 3).cell 0)
      have Hl1 := Lib.hid Ja.out.below.size
      go_upto_region 9 with (with_reducible refine wpList_append_one rfl (.tmp 23) (.tmp 27) 22 rfl w2.heap.size 3 i0 (.int .i64 0) 8 Tryd.underlying22 hi0 hz0 hz1 hz2 rfl A2 ly d (ints cy) rfl Hcy.out (Ja.out.sl (k := 0) rfl) _ 1 (.int .i64 (l2 : Int)) rfl Hc0.out rfl (by omega) (by omega) Hl1.out ?_; intro A3 e3 w7 hO2 hT2 hA2; have HO3 := Lib.hid hO2; have HT3 := Lib.hid hT2; have HA3 := Lib.hid hA2; clear hO2 hT2 hA2)
      have J8 : Hid (HH w2 w7 [(q, rowO 51 [.slice a l1 c, .slice e l2 f, .int .i64 r3])] [⟨A3, e3, 3, ints (cy ++ [(l2 : Int)])⟩]) := Lib.hid (by
        have h := Ja.out.grow (k := 0) rfl HO3.out HT3.out HA3.out
        rw [← ints_snoc]; exact h)
      clear HO3 HT3 HA3 Ja K0 Hc0 Hl1 y1
      have y0 := J8.out.cell (k := 0) (i := 0) rfl rfl
      have Hus : Hid (VAt w7 a (ints Xd)) := Lib.hid (HI.out.later J8.out.below)
      have Hu1 : Hid (∀ u ∈ ints Xd, u.oneCell' = true) := Lib.hid (by
        intro u hu
        obtain ⟨x, _, rfl⟩ := List.mem_map.1 hu
        rfl)
      have Hl1 := Lib.hid J8.out.below.size
      have HO1 : Hid (Own w7 w2.heap.size 3 A3 (e3 * 1) (ints (cy ++ [(l2 : Int)]))) := Lib.hid (by rw [Nat.mul_one]; exact J8.out.sl (k := 0) rfl)
      have Hvl : Hid ((ints (cy ++ [(l2 : Int)])).length = (ly + 1) * 1) := Lib.hid (by rw [ints_length, List.length_append, Nat.mul_one, ← Hcy.out, ints_length]; rfl)
      have hdc : ly + 1 ≤ e3 := by have := HO1.out.size; have := Hvl.out; omega
      have Hzc : Hid ((Value.int .i64 0).cells.size = 1) := Lib.hid rfl
      go_wp2_with (with_reducible refine wpList_append_wide rfl (.tmp 29) (.tmp 31) 22 22 rfl w2.heap.size 3 i0 _ 8 1 Tryd.underlying22 Tryd.underlying22 hi0 hz0 hz1 (by decide) hz2 Hzc.out A3 (ly + 1) e3 (ints (cy ++ [(l2 : Int)])) rfl Hvl.out hdc HO1.out a l1 c (ints Xd) rfl hX.out Hus.out Hu1.out (by omega) (by omega) Hl1.out ?_; intro A7 e7 w8 hle hO7 hT7 hA7; have HO7 := Lib.hid hO7; have HT7 := Lib.hid hT7; have HA7 := Lib.hid hA7; clear hO7 hT7 hA7)
      have J9 : Hid (HH w2 w8 [] [⟨A7, e7, 3, ints (codeY L ys (i + 1))⟩]) := Lib.hid (by
        have ho := HO7.out
        rw [Nat.mul_one] at ho
        have h := J8.out.grow (k := 0) rfl ho HT7.out HA7.out
        have e : ints (cy ++ [(l2 : Int)]) ++ ints Xd = ints (codeY L ys (i + 1)) := by rw [HC2.out]; simp only [ints, List.map_append]
        rw [← e]
        exact h.forgetK (List.nil_sublist _))
      go_roundg (ys.length - (i + 1))
      case measure => omega
      case rel => exact ⟨i + 1, A7, e7, by omega, rfl, by go_num, by rw [Hl2.out], J9.out⟩
    · obtain rfl : i = ys.length := by omega
      have HE : Hid (codeY L ys ys.length = CO) := Lib.hid HY.out.1
      rw [HE.out] at Jr
      rw [HE.out]
      clear HE
      go_wp2_with fail
      go_ret
      exact ⟨A2, d, rfl, (Jr.out.sl (k := 0) rfl).mono HBw.out.size, HBw.out.trans (Jr.out.below.mono HBw.out.size)⟩
end Go.Proofs.YtmhhjchnjaefhaaDoor


namespace Go.Proofs.YtmhhjchnjaefhaaDoor
open Go Go.RowKit
/-- A sum of the first k. -/
def wsum (g : Nat → Int) : Nat → Int
  | 0 => 0
  | k + 1 => wsum g k + g k
/-- The writhe; the sum of the signs of the crossings of two strands. -/
def wr (S : List Int) : Int := wsum (nth S) S.length
def fillL (n : Nat) (g : Nat → Int) : List Int := (List.range n).map g
/-- The crossing that gets the number i. -/
def ordN (O : List Int) (i : Nat) : Nat := (nth O i).toNat
/-- The numbers, after i crossings. -/
def numTo (O : List Int) (n : Nat) : Nat → List Int
  | 0 => fillL n fun _ => -1
  | i + 1 => (numTo O n i).set (ordN O i) (i : Int)
def goodAt (O : List Int) (n i : Nat) : Prop := 0 ≤ nth O i ∧ nth O i < (n : Int) ∧ nth (numTo O n i) (ordN O i) < 0
/-- While the numbers are made. -/
structure RnA (w wx : World) (box : List Value) (bN : Nat) (xs : List Int) : Prop where
  N : Row wx bN 3 (ints xs)
  box : Row wx w.heap.size 24 box
  res : Row wx (w.heap.size + 1) 24 [.slice none 0 0, .slice none 0 0, .int .i64 0]
  below : Below w.heap.size w wx
  lo : w.heap.size + 2 ≤ bN
theorem RnA.set {w wx : World} {box : List Value} {bN : Nat} {xs : List Int} (h : RnA w wx box bN xs) (i : Nat) (x : Int) : RnA w (wx.setCell ⟨bN, i, none⟩ (.int .i64 x)) box bN (xs.set i x) :=
  ⟨h.N.setInt i x, h.box.setOther _ _ (by have := h.lo; show w.heap.size ≠ bN; omega), h.res.setOther _ _ (by have := h.lo; show w.heap.size + 1 ≠ bN; omega), h.below.setCell (by have := h.lo; show w.heap.size ≤ bN; omega) _, h.lo⟩
theorem RnA.up {w wx wy : World} {box : List Value} {bN : Nat} {ns : List Int} (h : RnA w wx box bN ns) (hb : Below wx.heap.size wx wy) : RnA w wy box bN ns :=
  ⟨h.N.later hb h.N.lt, h.box.later hb h.box.lt, h.res.later hb h.res.lt, below_step h.below hb, h.lo⟩
end Go.Proofs.YtmhhjchnjaefhaaDoor

namespace Go.Proofs.YtmhhjchnjaefhaaDoor
open Go Go.RowKit
theorem bsize : (Tryd.prog.info? 58).map (·.size) = some 2 := by kernel_rfl
theorem blies : liesAt Tryd.prog Tryd.prog.depth 58 (2 / Tryd.prog.cellsOf 58) 0 58 1 = true := by kernel_rfl
theorem byteInfo : (Tryd.prog.info? 5).map (fun i => (i.zero, i.size, i.bytes)) = some (some (.int .u8 0), 1, 1) := by kernel_rfl
/-- A builder in block b whose bytes lie from G on. -/
def BAt (G b : Nat) (p : Value) (bs : List Value) (w : World) : Prop := ∃ v, w.heap[b]? = some (.cells #[p, v] 58 (0, 0)) ∧ w.ownsRow G 5 1 v bs.length bs ∧ v.ownBlock ≠ some b
def IsB (G b : Nat) (bs : List Value) (w : World) : Prop := BAt G b (.pointer none) bs w ∨ BAt G b (.pointer (some ⟨b, 0, none⟩)) bs w
/-- The old blocks stay, but for b. -/
structure Kp (G b : Nat) (w w' : World) : Prop where
  os : w'.os = w.os
  tape : w'.tape = w.tape
  output : w'.output = w.output
  size : w.heap.size ≤ w'.heap.size
  block : ∀ i, i < G → i ≠ b → w'.heap[i]? = w.heap[i]?
theorem Kp.refl (G b : Nat) (w : World) : Kp G b w w := ⟨rfl, rfl, rfl, Nat.le_refl _, fun _ _ _ => rfl⟩
theorem Kp.trans {G b : Nat} {w w1 w2 : World} (h : Kp G b w w1) (k : Kp G b w1 w2) : Kp G b w w2 := ⟨k.os.trans h.os, k.tape.trans h.tape, k.output.trans h.output, Nat.le_trans h.size k.size, fun i hi hb => (k.block i hi hb).trans (h.block i hi hb)⟩
theorem Kp.below {G b : Nat} {w w1 w2 : World} (h : Kp G b w w1) (k : Below w1.heap.size w1 w2) (hG : G ≤ w1.heap.size) : Kp G b w w2 := h.trans ⟨k.os, k.tape, k.output, k.size, fun i hi _ => k.block i (by omega)⟩
theorem Kp.set {G b : Nat} {w w1 : World} (h : Kp G b w w1) (i : Nat) (v : Value) : Kp G b w (w1.setCell ⟨b, i, none⟩ v) := h.trans ⟨rfl, rfl, rfl, by simp, fun j _ hb => Below.heap_setCell w1 ⟨b, i, none⟩ v j hb⟩
theorem lt_of_some {w : World} {b : Nat} {x : Obj} (h : w.heap[b]? = some x) : b < w.heap.size := (Array.getElem?_eq_some_iff.1 h).1
theorem BAt.later {G b : Nat} {p : Value} {bs : List Value} {w w' : World} (h : BAt G b p bs w) (hb : Below w.heap.size w w') : BAt G b p bs w' := by
  obtain ⟨v, h1, ⟨h2, h3⟩, h4⟩ := h
  refine ⟨v, (hb.block b (lt_of_some h1)).trans h1, ⟨h2, ?_⟩, h4⟩
  rcases h3 with h3 | ⟨g, cap, cur, e, k1, k2, k3⟩
  · exact .inl h3
  · exact .inr ⟨g, cap, cur, e, k1, (hb.block g (lt_of_some k2)).trans k2, k3⟩
theorem IsB.later {G b : Nat} {bs : List Value} {w w' : World} (h : IsB G b bs w) (hb : Below w.heap.size w w') : IsB G b bs w' := by
  rcases h with h | h
  · exact .inl (h.later hb)
  · exact .inr (h.later hb)
theorem IsB.fresh {G b : Nat} {w : World} (h : w.heap[b]? = some (.cells #[.pointer none, .slice none 0 0] 58 (0, 0))) : IsB G b [] w := .inl ⟨_, h, World.ownsRow_nil _ _ _ _, by simp [Value.ownBlock]⟩
theorem IsB.lib {G b : Nat} {bs : List Value} {w : World} (h : IsB G b bs w) (hb : b ≤ G) : Lib.IsBuilder 58 5 b b bs w := by
  have key : ∀ p, BAt G b p bs w → Lib.BuilderAt 58 5 b b p bs w := fun p ⟨v, h1, ⟨h2, h3⟩, h4⟩ => by
    refine ⟨Nat.le_refl _, v, h1, ⟨h2, ?_⟩, h4⟩
    rcases h3 with h3 | ⟨g, cap, cur, e, k1, k2⟩
    · exact .inl h3
    · exact .inr ⟨g, cap, cur, e, Nat.le_trans hb k1, k2⟩
  rcases h with h | h
  · exact .inl (key _ h)
  · exact .inr (key _ h)
set_option maxRecDepth 100000 in
set_option maxHeartbeats 1000000 in
theorem ccheck_used (b : Nat) (w : World) (h0 : w.cell? ⟨b, 0, none⟩ = some (.pointer (some ⟨b, 0, none⟩))) :
    Calls Tryd.prog 72 #[.pointer (some ⟨b, 0, none⟩)] w fun e w' => e = .returned (.tuple #[]) ∧ w' = w := by
  obtain ⟨j, hj, _⟩ := Option.map_eq_some_iff.1 bsize
  go_enter Tryd.func72, Tryd.ntmps72
  go_wp2_with fail
  rw [Lib.run_neq_ptr_same w _ Tryd.underlying55 hj]
  go_wp2_with fail
  refine bodyPost_end (results_none rfl _ _ _) rfl ?_
  exact ⟨rfl, rfl⟩
set_option maxRecDepth 100000 in
set_option maxHeartbeats 1000000 in
theorem ccheck_fresh (b : Nat) (w : World) (h0 : w.cell? ⟨b, 0, none⟩ = some (.pointer none)) (hsh : w.shape? b = some (58, 2)) (hfz : w.frozen? ⟨b, 0, none⟩ = false) :
    Calls Tryd.prog 72 #[.pointer (some ⟨b, 0, none⟩)] w fun e w' => e = .returned (.tuple #[]) ∧ w' = w.setCell ⟨b, 0, none⟩ (.pointer (some ⟨b, 0, none⟩)) := by
  obtain ⟨j, hj, hjs⟩ := Option.map_eq_some_iff.1 bsize
  go_enter Tryd.func72, Tryd.ntmps72
  go_wp2_with fail
  rw [Lib.run_to_unsafe w ⟨b, 0, none⟩ Tryd.underlying55 Tryd.underlying82 hj (by rw [hjs]; decide) hsh (Nat.zero_lt_succ 1)]
  simp only [Result.andThen]
  rw [Oper.upon_value]
  go_wp2_with fail
  rw [run_callFunc_extern Tryd.func78 (by kernel_rfl) (by kernel_rfl) (by kernel_rfl) (e := Extern.AbiNoEscape.same) (by kernel_rfl)]
  rw [Lib.run_noEscape]
  simp only [Result.andThen]
  rw [Oper.upon_value]
  go_wp2_with fail
  rw [Lib.run_from_unsafe w ⟨b, 0, none⟩ Tryd.underlying82 Tryd.underlying55 hj hsh blies]
  simp only [Result.andThen]
  rw [Oper.upon_value]
  go_wp2_with fail
  refine bodyPost_end (results_none rfl _ _ _) rfl ?_
  exact ⟨rfl, rfl⟩
theorem ccheck_any (G b : Nat) (bs : List Value) (w : World) (h : IsB G b bs w) :
    Calls Tryd.prog 72 #[.pointer (some ⟨b, 0, none⟩)] w fun e w' => e = .returned (.tuple #[]) ∧ (BAt G b (.pointer (some ⟨b, 0, none⟩)) bs w' ∧ Kp G b w w') := by
  have hl : Lib.IsBuilder 58 5 0 b bs w := by
    have key : ∀ p, BAt G b p bs w → Lib.BuilderAt 58 5 0 b p bs w := fun p ⟨v, h1, ⟨h2, h3⟩, h4⟩ => by
      refine ⟨Nat.zero_le _, v, h1, ⟨h2, ?_⟩, h4⟩
      rcases h3 with h3 | ⟨g, cap, cur, e, _, k2⟩
      · exact .inl h3
      · exact .inr ⟨g, cap, cur, e, Nat.zero_le _, k2⟩
    rcases h with h | h
    · exact .inl (key _ h)
    · exact .inr (key _ h)
  rcases h with ⟨v, h1, h2, h3⟩ | h
  · rcases hl with hl | hl
    · refine (ccheck_fresh b w hl.cell0 hl.shape hl.frozen0).mono ?_
      rintro e w' ⟨rfl, rfl⟩
      refine ⟨rfl, ⟨v, ?_, ?_, h3⟩, (Kp.refl G b w).set 0 _⟩
      · have := heap_setCell_same w b 0 _ 58 (.pointer (some ⟨b, 0, none⟩)) h1
        simpa using this
      · obtain ⟨h2, h4⟩ := h2
        refine ⟨h2, ?_⟩
        rcases h4 with h4 | ⟨g, cap, cur, e, k1, k2, k3⟩
        · exact .inl h4
        · refine .inr ⟨g, cap, cur, e, k1, (Below.heap_setCell w ⟨b, 0, none⟩ _ g fun e2 => h3 ?_).trans k2, k3⟩
          have e2 : g = b := e2
          rw [e, ← e2]; rfl
    · exact absurd (hl.cell0.symm.trans (Lib.cell_of_heap h1 0)) (by simp)
  · rcases hl with hl | hl
    · obtain ⟨v, h1, _⟩ := h
      exact absurd (hl.cell0.symm.trans (Lib.cell_of_heap h1 0)) (by simp)
    · refine (ccheck_used b w hl.cell0).mono ?_
      rintro e w' ⟨rfl, rfl⟩
      exact ⟨rfl, h, Kp.refl _ _ _⟩
theorem own_ge {w : World} {G n : Nat} {v : Value} {bs : List Value} (h : w.ownsRow G 5 1 v n bs) {k : Nat} (hk : v.ownBlock = some k) : G ≤ k := by
  rcases h.2 with ⟨e, _⟩ | ⟨g, cap, cur, e, k1, _⟩
  · rw [e] at hk; simp [Value.ownBlock] at hk
  · rw [e] at hk; simp [Value.ownBlock] at hk; omega
theorem own_ne {w : World} {G n b : Nat} {v : Value} {bs : List Value} {cs : Array Value} (h : w.ownsRow G 5 1 v n bs) (hb : w.heap[b]? = some (.cells cs 58 (0, 0))) : v.ownBlock ≠ some b := Lib.ownBlock_ne h hb (by decide)
theorem put_b {w : World} {G b : Nat} {p v v' : Value} {bs : List Value} (hb : w.heap[b]? = some (.cells #[p, v] 58 (0, 0))) (hown : w.ownsRow G 5 1 v' bs.length bs) : BAt G b p bs (w.setCell ⟨b, 1, none⟩ v') := by
  have hne := own_ne hown hb
  refine ⟨v', ?_, ⟨hown.1, ?_⟩, hne⟩
  · have := heap_setCell_same w b 1 _ 58 v' hb
    simpa using this
  · rcases hown.2 with h | ⟨g, cap, cur, e, k1, k2, k3⟩
    · exact .inl h
    · refine .inr ⟨g, cap, cur, e, k1, (Below.heap_setCell w ⟨b, 1, none⟩ _ g fun e2 => hne ?_).trans k2, k3⟩
      have e2 : g = b := e2
      rw [e, ← e2]; rfl
set_option maxRecDepth 100000 in
set_option maxHeartbeats 2000000 in
theorem wstring_any (G b : Nat) (bs : List Value) (s : ByteArray) (w : World) (h : IsB G b bs w) (hlen : bs.length + s.size ≤ 1000000) (hG : G ≤ w.heap.size) :
    Calls Tryd.prog 52 #[.pointer (some ⟨b, 0, none⟩), .string s] w fun e w' => e = .returned (.tuple #[.int .i64 s.size, .nilIface]) ∧ (IsB G b (bs ++ Lib.strCells s) w' ∧ Kp G b w w') := by
  obtain ⟨i0, hi, hz0, hz1, hz2⟩ := info_parts byteInfo
  have HC := Lib.hid (ccheck_any G b bs w h)
  clear h
  go_enter Tryd.func52, Tryd.ntmps52
  go_wp2_with fail
  refine HC.out.mono ?_
  rintro e w1 ⟨rfl, ⟨v, hbk, hown, hne⟩, hk1⟩
  have c0 : w1.cell? ⟨b, 0, none⟩ = some (.pointer (some ⟨b, 0, none⟩)) := by rw [Lib.cell_of_heap hbk]; rfl
  have c1 : w1.cell? ⟨b, 1, none⟩ = some v := by rw [Lib.cell_of_heap hbk]; rfl
  have hs1 := hk1.size
  go_wp2_with (at_builtin; refine Lib.wpList_append_own_string _ rfl _ _ 56 9 rfl G 5 i0 Tryd.underlying56 Tryd.underlying9 hi hz0 hz1 hz2 _ _ _ rfl hown s rfl ?c3 ?c4 ?c5 ?_)
  case c3 => unfold maxLen; omega
  case c4 => omega
  case c5 => omega
  intro v' w2 hown' hgrow _
  have hb2 : w2.heap[b]? = some (.cells #[.pointer (some ⟨b, 0, none⟩), v] 58 (0, 0)) := (hgrow.block b (lt_of_some hbk) (fun e => hne e.symm)).trans hbk
  have d0 : w2.cell? ⟨b, 0, none⟩ = some (.pointer (some ⟨b, 0, none⟩)) := by rw [Lib.cell_of_heap hb2]; rfl
  have d1 : w2.cell? ⟨b, 1, none⟩ = some v := by rw [Lib.cell_of_heap hb2]; rfl
  have f1 : w2.frozen? ⟨b, 1, none⟩ = false := Lib.frozen_of_heap hb2 1
  obtain ⟨ao, n', cap, rfl⟩ : ∃ ao n' cap, v' = .slice ao n' cap := by
    rcases hown'.2 with ⟨hv, _⟩ | ⟨g, cap, cur, hv, _⟩
    · exact ⟨_, _, _, hv⟩
    · exact ⟨_, _, _, hv⟩
  have hput := Lib.hid (put_b (G := G) hb2 (bs := bs ++ Lib.strCells s) (by simpa [Lib.strCells_length] using hown'))
  have hkk : Kp G b w w2 := hk1.trans ⟨hgrow.os, hgrow.tape, hgrow.output, hgrow.size, fun i hi hb => hgrow.block i (by omega) fun e => by have := own_ge hown e.symm; omega⟩
  have hbel := Lib.hid (hkk.set 1 (.slice ao n' cap))
  clear hown' hgrow hown hne hk1 hkk
  go_wp2_with fail
  refine bodyPost_ret (v := .tuple #[.int .i64 s.size, .nilIface]) (by simp [results, Tryd.results52, go_sem]) rfl ?_
  exact ⟨rfl, .inr hput.out, hbel.out⟩
set_option maxRecDepth 100000 in
set_option maxHeartbeats 2000000 in
theorem wbyte_any (G b : Nat) (bs : List Value) (c : Int) (w : World) (h : IsB G b bs w) (hlen : bs.length + 1 ≤ 1000000) (hG : G ≤ w.heap.size) :
    Calls Tryd.prog 51 #[.pointer (some ⟨b, 0, none⟩), .int .u8 c] w fun e w' => e = .returned .nilIface ∧ (IsB G b (bs ++ [.int .u8 c]) w' ∧ Kp G b w w') := by
  obtain ⟨i0, hi, hz0, hz1, hz2⟩ := info_parts byteInfo
  have HC := Lib.hid (ccheck_any G b bs w h)
  clear h
  go_enter Tryd.func51, Tryd.ntmps51
  go_wp2_with fail
  refine HC.out.mono ?_
  rintro e w1 ⟨rfl, ⟨v, hbk, hown, hne⟩, hk1⟩
  have c0 : w1.cell? ⟨b, 0, none⟩ = some (.pointer (some ⟨b, 0, none⟩)) := by rw [Lib.cell_of_heap hbk]; rfl
  have c1 : w1.cell? ⟨b, 1, none⟩ = some v := by rw [Lib.cell_of_heap hbk]; rfl
  have hs1 := hk1.size
  go_wp2_with (at_builtin; refine wpList_append_own _ rfl _ _ 56 rfl G 5 i0 (.int .u8 0) 1 1 Tryd.underlying56 hi hz0 hz1 hz2 rfl (by decide) _ _ _ rfl (hown.alloc _) ⟨w1.heap.size, 0, none⟩ 1 1 [.int .u8 c] rfl rfl ?c1 ?c2 ?c3 ?c4 ?c5 ?_)
  case c1 =>
    intro j u hj
    match j, hj with
    | 0, hj => simp at hj; subst hj; simp [Addr.add]
  case c2 => intro u hu; simp at hu; subst hu; rfl
  case c3 => unfold maxLen; omega
  case c4 => omega
  case c5 => simp; omega
  intro v' w2 hown' hgrow _
  have hlt := lt_of_some hbk
  have hb2 : w2.heap[b]? = some (.cells #[.pointer (some ⟨b, 0, none⟩), v] 58 (0, 0)) := by
    rw [hgrow.block b (by simp; omega) (fun e => hne e.symm), Lib.alloc_old w1 _ b hlt]
    exact hbk
  have d0 : w2.cell? ⟨b, 0, none⟩ = some (.pointer (some ⟨b, 0, none⟩)) := by rw [Lib.cell_of_heap hb2]; rfl
  have d1 : w2.cell? ⟨b, 1, none⟩ = some v := by rw [Lib.cell_of_heap hb2]; rfl
  have f1 : w2.frozen? ⟨b, 1, none⟩ = false := Lib.frozen_of_heap hb2 1
  obtain ⟨ao, n', cap, rfl⟩ : ∃ ao n' cap, v' = .slice ao n' cap := by
    rcases hown'.2 with ⟨hv, _⟩ | ⟨g, cap, cur, hv, _⟩
    · exact ⟨_, _, _, hv⟩
    · exact ⟨_, _, _, hv⟩
  have hput := Lib.hid (put_b (G := G) hb2 (bs := bs ++ [.int .u8 c]) (by simpa using hown'))
  have hkk : Kp G b w w2 := (hk1.below ((Below.refl _ _).alloc (Nat.le_refl _) (.cells #[.int .u8 c] 5)) (by omega)).trans ⟨hgrow.os, hgrow.tape, hgrow.output, hgrow.size, fun i hi hb => hgrow.block i (by simp; omega) fun e => by have := own_ge hown e.symm; omega⟩
  have hbel := Lib.hid (hkk.set 1 (.slice ao n' cap))
  clear hown' hgrow hown hne hk1 hkk
  go_wp2_with fail
  go_ret
  exact ⟨rfl, .inr hput.out, hbel.out⟩
end Go.Proofs.YtmhhjchnjaefhaaDoor

namespace Go.Proofs.YtmhhjchnjaefhaaDoor
open Go Go.RowKit
set_option maxRecDepth 100000 in
set_option maxHeartbeats 1000000 in
theorem csame_noA (Sa Ma : List Int) (La : Int) (aSa aMa : Option Addr) (cSa cMa : Nat) (Sb Mb : List Int) (Lb : Int) (aSb aMb : Option Addr) (cSb cMb : Nat) (w : World) (hSla : Sa.length ≤ 1000000000) (hMla : Ma.length ≤ 1000000000) (hva : vldB Sa Ma La = false) (hSa : IntsAt w aSa Sa) (hMa : IntsAt w aMa Ma) (_hSb : IntsAt w aSb Sb) (_hMb : IntsAt w aMb Mb) :
    Calls Tryd.prog 14 #[.agg #[.slice aSa Sa.length cSa, .slice aMa Ma.length cMa, .int .i64 La], .agg #[.slice aSb Sb.length cSb, .slice aMb Mb.length cMb, .int .i64 Lb]] w fun e w' => e = .returned (.bool false) ∧ Below w.heap.size w w' := by
  have HVa : Hid (∀ W', Below w.heap.size w W' → Calls Tryd.prog 18 #[.agg #[.slice aSa Sa.length cSa, .slice aMa Ma.length cMa, .int .i64 La]] W' fun e w' => e = .returned (.bool false) ∧ Below W'.heap.size W' w') := Lib.hid fun W' h => by
    have g := valid_any Sa Ma La aSa aMa cSa cMa W' (by omega) (by omega) (hSa.later h) (hMa.later h)
    rw [hva] at g; exact g
  have H0 := Lib.hid (((HH.start w).alloc #[.slice aSa Sa.length cSa, .slice aMa Ma.length cMa, .int .i64 La] 24 rfl rfl).alloc #[.slice aSb Sb.length cSb, .slice aMb Mb.length cMb, .int .i64 Lb] 24 (b := w.heap.size + 1) (by simp) rfl)
  clear hva hSa hMa
  generalize Sa.length = na at *
  generalize Ma.length = Na at *
  generalize Sb.length = nb at *
  generalize Mb.length = Nb at *
  go_enter Tryd.func14, Tryd.ntmps14
  have k00 := H0.out.cell (k := 0) (i := 0) rfl rfl
  have k01 := H0.out.cell (k := 0) (i := 1) rfl rfl
  have k02 := H0.out.cell (k := 0) (i := 2) rfl rfl
  have k10 := H0.out.cell (k := 1) (i := 0) rfl rfl
  have k11 := H0.out.cell (k := 1) (i := 1) rfl rfl
  have k12 := H0.out.cell (k := 1) (i := 2) rfl rfl
  go_wp2_with fail
  clear k00 k01 k02 k10 k11 k12
  refine (HVa.out _ H0.out.below).mono ?_
  rintro e w1 ⟨rfl, hb⟩
  have H1 := Lib.hid (H0.out.call hb)
  clear hb H0 
  go_wp2_with fail
  go_ret
  exact ⟨rfl, H1.out.below⟩
set_option maxRecDepth 100000 in
set_option maxHeartbeats 1000000 in
theorem csame_noB (Sa Ma : List Int) (La : Int) (aSa aMa : Option Addr) (cSa cMa : Nat) (Sb Mb : List Int) (Lb : Int) (aSb aMb : Option Addr) (cSb cMb : Nat) (w : World) (hSla : Sa.length ≤ 1000000000) (hMla : Ma.length ≤ 1000000000)(hSlb : Sb.length ≤ 1000000000) (hMlb : Mb.length ≤ 1000000000) (hva : vldB Sa Ma La = true) (hvb : vldB Sb Mb Lb = false) (hSa : IntsAt w aSa Sa) (hMa : IntsAt w aMa Ma) (hSb : IntsAt w aSb Sb) (hMb : IntsAt w aMb Mb) :
    Calls Tryd.prog 14 #[.agg #[.slice aSa Sa.length cSa, .slice aMa Ma.length cMa, .int .i64 La], .agg #[.slice aSb Sb.length cSb, .slice aMb Mb.length cMb, .int .i64 Lb]] w fun e w' => e = .returned (.bool false) ∧ Below w.heap.size w w' := by
  have HVa : Hid (∀ W', Below w.heap.size w W' → Calls Tryd.prog 18 #[.agg #[.slice aSa Sa.length cSa, .slice aMa Ma.length cMa, .int .i64 La]] W' fun e w' => e = .returned (.bool true) ∧ Below W'.heap.size W' w') := Lib.hid fun W' h => by
    have g := valid_any Sa Ma La aSa aMa cSa cMa W' (by omega) (by omega) (hSa.later h) (hMa.later h)
    rw [hva] at g; exact g
  have HVb : Hid (∀ W', Below w.heap.size w W' → Calls Tryd.prog 18 #[.agg #[.slice aSb Sb.length cSb, .slice aMb Mb.length cMb, .int .i64 Lb]] W' fun e w' => e = .returned (.bool false) ∧ Below W'.heap.size W' w') := Lib.hid fun W' h => by
    have g := valid_any Sb Mb Lb aSb aMb cSb cMb W' (by omega) (by omega) (hSb.later h) (hMb.later h)
    rw [hvb] at g; exact g
  have H0 := Lib.hid (((HH.start w).alloc #[.slice aSa Sa.length cSa, .slice aMa Ma.length cMa, .int .i64 La] 24 rfl rfl).alloc #[.slice aSb Sb.length cSb, .slice aMb Mb.length cMb, .int .i64 Lb] 24 (b := w.heap.size + 1) (by simp) rfl)
  clear hva hvb hSa hMa hSb hMb
  generalize Sa.length = na at *
  generalize Ma.length = Na at *
  generalize Sb.length = nb at *
  generalize Mb.length = Nb at *
  go_enter Tryd.func14, Tryd.ntmps14
  have k00 := H0.out.cell (k := 0) (i := 0) rfl rfl
  have k01 := H0.out.cell (k := 0) (i := 1) rfl rfl
  have k02 := H0.out.cell (k := 0) (i := 2) rfl rfl
  have k10 := H0.out.cell (k := 1) (i := 0) rfl rfl
  have k11 := H0.out.cell (k := 1) (i := 1) rfl rfl
  have k12 := H0.out.cell (k := 1) (i := 2) rfl rfl
  go_wp2_with fail
  clear k00 k01 k02 k10 k11 k12
  refine (HVa.out _ H0.out.below).mono ?_
  rintro e w1 ⟨rfl, hb⟩
  have H1 := Lib.hid (H0.out.call hb)
  clear hb H0 
  have k00 := H1.out.cell (k := 0) (i := 0) rfl rfl
  have k01 := H1.out.cell (k := 0) (i := 1) rfl rfl
  have k02 := H1.out.cell (k := 0) (i := 2) rfl rfl
  have k10 := H1.out.cell (k := 1) (i := 0) rfl rfl
  have k11 := H1.out.cell (k := 1) (i := 1) rfl rfl
  have k12 := H1.out.cell (k := 1) (i := 2) rfl rfl
  go_wp2_with fail
  clear k00 k01 k02 k10 k11 k12
  refine (HVb.out _ H1.out.below).mono ?_
  rintro e w2 ⟨rfl, hb⟩
  have H2 := Lib.hid (H1.out.call hb)
  clear hb H1 
  go_wp2_with fail
  go_ret
  exact ⟨rfl, H2.out.below⟩
set_option maxRecDepth 100000 in
set_option maxHeartbeats 1000000 in
theorem csame_yes (Sa Ma : List Int) (La : Int) (aSa aMa : Option Addr) (cSa cMa : Nat) (Sb Mb : List Int) (Lb : Int) (aSb aMb : Option Addr) (cSb cMb : Nat) (w : World) (hva : vldB Sa Ma La = true) (hvb : vldB Sb Mb Lb = true) (h20a : Sa.length ≤ 20) (h20b : Sb.length ≤ 20) (hSa : IntsAt w aSa Sa) (hMa : IntsAt w aMa Ma) (hSb : IntsAt w aSb Sb) (hMb : IntsAt w aMb Mb) :
    Calls Tryd.prog 14 #[.agg #[.slice aSa Sa.length cSa, .slice aMa Ma.length cMa, .int .i64 La], .agg #[.slice aSb Sb.length cSb, .slice aMb Mb.length cMb, .int .i64 Lb]] w fun e w' => e = .returned (.bool (decide (codeOf Sa Ma La = codeOf Sb Mb Lb))) ∧ Below w.heap.size w w' := by
  have hla := (vldB_shape hva).len
  have hlb := (vldB_shape hvb).len
  have HVa : Hid (∀ W', Below w.heap.size w W' → Calls Tryd.prog 18 #[.agg #[.slice aSa Sa.length cSa, .slice aMa Ma.length cMa, .int .i64 La]] W' fun e w' => e = .returned (.bool true) ∧ Below W'.heap.size W' w') := Lib.hid fun W' h => by
    have g := valid_any Sa Ma La aSa aMa cSa cMa W' (by omega) (by omega) (hSa.later h) (hMa.later h)
    rw [hva] at g; exact g
  have HVb : Hid (∀ W', Below w.heap.size w W' → Calls Tryd.prog 18 #[.agg #[.slice aSb Sb.length cSb, .slice aMb Mb.length cMb, .int .i64 Lb]] W' fun e w' => e = .returned (.bool true) ∧ Below W'.heap.size W' w') := Lib.hid fun W' h => by
    have g := valid_any Sb Mb Lb aSb aMb cSb cMb W' (by omega) (by omega) (hSb.later h) (hMb.later h)
    rw [hvb] at g; exact g
  have HCa : Hid (∀ W', Below w.heap.size w W' → Calls Tryd.prog 25 #[.agg #[.slice aSa Sa.length cSa, .slice aMa Ma.length cMa, .int .i64 La]] W' fun e w' => ∃ a c, e = .returned (.slice a (codeOf Sa Ma La).length c) ∧ Own w' W'.heap.size 3 a c (ints (codeOf Sa Ma La)) ∧ Below W'.heap.size W' w') := Lib.hid fun W' h => code_yes Sa Ma La aSa aMa cSa cMa W' hva h20a (hSa.later h) (hMa.later h)
  have HCb : Hid (∀ W', Below w.heap.size w W' → Calls Tryd.prog 25 #[.agg #[.slice aSb Sb.length cSb, .slice aMb Mb.length cMb, .int .i64 Lb]] W' fun e w' => ∃ a c, e = .returned (.slice a (codeOf Sb Mb Lb).length c) ∧ Own w' W'.heap.size 3 a c (ints (codeOf Sb Mb Lb)) ∧ Below W'.heap.size W' w') := Lib.hid fun W' h => code_yes Sb Mb Lb aSb aMb cSb cMb W' hvb h20b (hSb.later h) (hMb.later h)
  have HE : Hid (∀ (A B : Option Addr) (C D : Nat) W', IntsAt W' A (codeOf Sa Ma La) → IntsAt W' B (codeOf Sb Mb Lb) → Calls Tryd.prog 43 #[.slice A (codeOf Sa Ma La).length C, .slice B (codeOf Sb Mb Lb).length D] W' fun e w' => e = .returned (.bool (decide (codeOf Sa Ma La = codeOf Sb Mb Lb))) ∧ Below W'.heap.size W' w') := Lib.hid fun A B C D W' h1 h2 => sEq_any _ _ A B C D W' (codeOf_few hva h20a) h1 h2
  have H0 := Lib.hid (((HH.start w).alloc #[.slice aSa Sa.length cSa, .slice aMa Ma.length cMa, .int .i64 La] 24 rfl rfl).alloc #[.slice aSb Sb.length cSb, .slice aMb Mb.length cMb, .int .i64 Lb] 24 (b := w.heap.size + 1) (by simp) rfl)
  clear hva hvb hSa hMa hSb hMb hla hlb h20a h20b
  generalize decide (codeOf Sa Ma La = codeOf Sb Mb Lb) = r at *
  generalize codeOf Sa Ma La = Ca at *
  generalize codeOf Sb Mb Lb = Cb at *
  generalize Sa.length = na at *
  generalize Ma.length = Na at *
  generalize Sb.length = nb at *
  generalize Mb.length = Nb at *
  have HKS : Hid (∀ (W' : World) (s : List SlO), HH w W' [(w.heap.size, rowO 24 [.slice aSa na cSa, .slice aMa Na cMa, .int .i64 La]), (w.heap.size + 1, rowO 24 [.slice aSb nb cSb, .slice aMb Nb cMb, .int .i64 Lb])] s → W'.cell? ⟨w.heap.size, 0, none⟩ = some (.slice aSa na cSa) ∧ W'.cell? ⟨w.heap.size, 1, none⟩ = some (.slice aMa Na cMa) ∧ W'.cell? ⟨w.heap.size, 2, none⟩ = some (.int .i64 La) ∧ W'.cell? ⟨w.heap.size + 1, 0, none⟩ = some (.slice aSb nb cSb) ∧ W'.cell? ⟨w.heap.size + 1, 1, none⟩ = some (.slice aMb Nb cMb) ∧ W'.cell? ⟨w.heap.size + 1, 2, none⟩ = some (.int .i64 Lb)) := Lib.hid fun W' s h => ⟨h.cell (k := 0) (i := 0) rfl rfl, h.cell (k := 0) (i := 1) rfl rfl, h.cell (k := 0) (i := 2) rfl rfl, h.cell (k := 1) (i := 0) rfl rfl, h.cell (k := 1) (i := 1) rfl rfl, h.cell (k := 1) (i := 2) rfl rfl⟩
  go_enter Tryd.func14, Tryd.ntmps14
  have k00 := H0.out.cell (k := 0) (i := 0) rfl rfl
  have k01 := H0.out.cell (k := 0) (i := 1) rfl rfl
  have k02 := H0.out.cell (k := 0) (i := 2) rfl rfl
  have k10 := H0.out.cell (k := 1) (i := 0) rfl rfl
  have k11 := H0.out.cell (k := 1) (i := 1) rfl rfl
  have k12 := H0.out.cell (k := 1) (i := 2) rfl rfl
  go_wp2_with fail
  clear k00 k01 k02 k10 k11 k12
  refine (HVa.out _ H0.out.below).mono ?_
  rintro e w1 ⟨rfl, hb⟩
  have H1 := Lib.hid (H0.out.call hb)
  clear hb H0 
  have k00 := H1.out.cell (k := 0) (i := 0) rfl rfl
  have k01 := H1.out.cell (k := 0) (i := 1) rfl rfl
  have k02 := H1.out.cell (k := 0) (i := 2) rfl rfl
  have k10 := H1.out.cell (k := 1) (i := 0) rfl rfl
  have k11 := H1.out.cell (k := 1) (i := 1) rfl rfl
  have k12 := H1.out.cell (k := 1) (i := 2) rfl rfl
  go_wp2_with fail
  clear k00 k01 k02 k10 k11 k12
  refine (HVb.out _ H1.out.below).mono ?_
  rintro e w2 ⟨rfl, hb⟩
  have H2 := Lib.hid (H1.out.call hb)
  clear hb H1 
  have H4 := Lib.hid H2.out.drew
  have Q0 := Lib.hid (HKS.out _ _ H4.out)
  go_upto_region 3 with fail
  go_region_held3 (fun W' => W'.cell? ⟨w.heap.size, 0, none⟩ = some (.slice aSa na cSa) ∧ W'.cell? ⟨w.heap.size, 1, none⟩ = some (.slice aMa Na cMa) ∧ W'.cell? ⟨w.heap.size, 2, none⟩ = some (.int .i64 La) ∧ W'.cell? ⟨w.heap.size + 1, 0, none⟩ = some (.slice aSb nb cSb) ∧ W'.cell? ⟨w.heap.size + 1, 1, none⟩ = some (.slice aMb Nb cMb) ∧ W'.cell? ⟨w.heap.size + 1, 2, none⟩ = some (.int .i64 Lb))
    (first
      | with_reducible exact Q0.out
      | with_reducible exact Q5.out
      | with_reducible exact Q6.out
      | with_reducible exact Q7.out)
    (first
      | ((with_reducible refine (HCa.out _ H4.out.below).mono ?_); rintro e w5 ⟨A5, C5, rfl, ho, hb⟩; have H5 := Lib.hid (H4.out.addSl hb ho); have Q5 := Lib.hid (HKS.out _ _ H5.out); clear hb ho)
      | ((with_reducible refine (HCb.out _ H5.out.below).mono ?_); rintro e w6 ⟨A6, C6, rfl, ho, hb⟩; have H6 := Lib.hid (H5.out.addSl hb ho); have Q6 := Lib.hid (HKS.out _ _ H6.out); clear hb ho)
      | ((with_reducible refine (HE.out A5 A6 C5 C6 _ (H6.out.sl (k := 0) rfl).ints (H6.out.sl (k := 1) rfl).ints).mono ?_); rintro e w7 ⟨rfl, hb⟩; have H7 := Lib.hid (H6.out.call hb); have Q7 := Lib.hid (HKS.out _ _ H7.out); clear hb))
  go_wp2_with fail
  go_ret
  exact ⟨rfl, H7.out.below⟩
/-- .. what it answers. -/
noncomputable def cSame (S M : List Int) (L : Int) (T N : List Int) (K : Int) : Bool := vldB S M L && (vldB T N K && decide (codeOf S M L = codeOf T N K))
theorem csame_any (Sa Ma : List Int) (La : Int) (aSa aMa : Option Addr) (cSa cMa : Nat) (Sb Mb : List Int) (Lb : Int) (aSb aMb : Option Addr) (cSb cMb : Nat) (w : World) (hSla : Sa.length ≤ 1000000000) (hMla : Ma.length ≤ 1000000000) (hSlb : Sb.length ≤ 1000000000) (hMlb : Mb.length ≤ 1000000000) (h20a : Sa.length ≤ 20) (h20b : Sb.length ≤ 20) (hSa : IntsAt w aSa Sa) (hMa : IntsAt w aMa Ma) (hSb : IntsAt w aSb Sb) (hMb : IntsAt w aMb Mb) :
    Calls Tryd.prog 14 #[.agg #[.slice aSa Sa.length cSa, .slice aMa Ma.length cMa, .int .i64 La], .agg #[.slice aSb Sb.length cSb, .slice aMb Mb.length cMb, .int .i64 Lb]] w fun e w' => e = .returned (.bool (cSame Sa Ma La Sb Mb Lb)) ∧ Below w.heap.size w w' := by
  unfold cSame
  cases hva : vldB Sa Ma La
  · exact csame_noA Sa Ma La aSa aMa cSa cMa Sb Mb Lb aSb aMb cSb cMb w hSla hMla hva hSa hMa hSb hMb
  · cases hvb : vldB Sb Mb Lb
    · exact csame_noB Sa Ma La aSa aMa cSa cMa Sb Mb Lb aSb aMb cSb cMb w hSla hMla hSlb hMlb hva hvb hSa hMa hSb hMb
    · exact csame_yes Sa Ma La aSa aMa cSa cMa Sb Mb Lb aSb aMb cSb cMb w hva hvb h20a h20b hSa hMa hSb hMb
end Go.Proofs.YtmhhjchnjaefhaaDoor


