/- The walks of strings.Builder's copyCheck, WriteString and WriteByte at a builder of the call's own that lies ahead of blocks which stay. canon.Same: two diagrams are valid and have the same code. canon.Key: the numbers of the code as a text. -/
import Derived.Lib.Builder
import Derived.Lib.AppendStr
import Derived.Lib.Walk
import Derived.WalkKit
import Derived.Laws.Externs
import Derived.WalkSpells
import Derived.WalkLawsBesides
import Derived.Deep.AppendSrc
import Derived.Deep.LoopGhost
import Derived.Deep.QuietTactic
import Derived.Deep.RegionWith
import Derived.Deep.DeepMust
import Derived.Deep.DeepFit
import Derived.BigQuiet
import Derived.Lib.Hide
import Derived.Outline
import Derived.Test.YtmhhjchnjaefhaaDoorProg
import Derived.Deep.Matrix
import Derived.Deep.DeepCutAuto
import Derived.Deep.RegionLaw
import Derived.Deep.RegionHeld3
import Derived.Lib.SliceRun
import Derived.Shelf.Strings.Builder1
import Derived.Shelf.Small.Wraps
import Derived.Shelf.Strings.BuilderF
import Derived.Shelf.Strings.BuilderK
import Derived.Shelf.Strconv.Itoa0
import Derived.Shelf.Strconv.Itoa1
import Derived.Shelf.LaysM
import Derived.Shelf.Strconv.Itoa2
import Derived.Shelf.Strconv.Itoa3
import Derived.Shelf.Slices.Equal
import Derived.Ground.Names2Prog
import Derived.Shelf.Slices.Clone
import Derived.Shelf.Slices.SearchI
import Derived.Shelf.Slices.Empties2
import Derived.Ground.SlgnProg
import Derived.Shelf.SlicesE.Clone
import Derived.Sort.OwnSortedInts
import Derived.Shelf.Small.Bits
import Derived.Shelf.Sort.Plain
import Derived.Shelf.Slices.Turned
import Derived.Shelf.Slices.CompactI
import Derived.Shelf.Slices.Cells
import Derived.Shelf.Slices.In.SortNone
import Derived.Lib.AppendZeros
import Derived.Deep.RegionHeld
import Derived.Lib.AppendIntMem
import Derived.Test.YtmhhjchnjaefhaaDoorFbAa
import Derived.Test.YtmhhjchnjaefhaaDoorFbAb
import Derived.Test.YtmhhjchnjaefhaaDoorFbAc
import Derived.Test.YtmhhjchnjaefhaaDoorFbAd
import Derived.Test.YtmhhjchnjaefhaaDoorFbAe
import Derived.Test.YtmhhjchnjaefhaaDoorFbAf
import Derived.Test.YtmhhjchnjaefhaaDoorFbAg
import Derived.Test.YtmhhjchnjaefhaaDoorFbAh
import Derived.Test.YtmhhjchnjaefhaaDoorFbAi
import Derived.Test.YtmhhjchnjaefhaaDoorFbAj
import Derived.Test.YtmhhjchnjaefhaaDoorFbAk
import Derived.Test.YtmhhjchnjaefhaaDoorFbAl
import Derived.Test.YtmhhjchnjaefhaaDoorFbAm
import Derived.Test.YtmhhjchnjaefhaaDoorFbAn
namespace Go.Proofs.YtmhhjchnjaefhaaDoor
open Go Go.RowKit
theorem bsize : (Tryd.prog.info? 58).map (·.size) = some 2 := by kernel_rfl
theorem blies : liesAt Tryd.prog Tryd.prog.depth 58 (2 / Tryd.prog.cellsOf 58) 0 58 1 = true := by kernel_rfl
theorem byteInfo : (Tryd.prog.info? 5).map (fun i => (i.zero, i.size, i.bytes)) = some (some (.int .u8 0), 1, 1) := by kernel_rfl
/-- A builder in block b whose bytes lie from G on. -/
def BAt (G b : Nat) (p : Value) (bs : List Value) (w : World) : Prop := ∃ v, w.heap[b]? = some (.cells #[p, v] 58 (0, 0)) ∧ w.ownsRow G 5 1 v bs.length bs ∧ v.ownBlock ≠ some b
def IsB (G b : Nat) (bs : List Value) (w : World) : Prop := BAt G b (.pointer none) bs w ∨ BAt G b (.pointer (some ⟨b, 0, none⟩)) bs w
/-- The old blocks stay, but for b. -/
structure Kp (G b : Nat) (w w' : World) : Prop where
  os : w'.os = w.os
  tape : w'.tape = w.tape
  output : w'.output = w.output
  size : w.heap.size ≤ w'.heap.size
  block : ∀ i, i < G → i ≠ b → w'.heap[i]? = w.heap[i]?
theorem Kp.refl (G b : Nat) (w : World) : Kp G b w w := ⟨rfl, rfl, rfl, Nat.le_refl _, fun _ _ _ => rfl⟩
theorem Kp.trans {G b : Nat} {w w1 w2 : World} (h : Kp G b w w1) (k : Kp G b w1 w2) : Kp G b w w2 := ⟨k.os.trans h.os, k.tape.trans h.tape, k.output.trans h.output, Nat.le_trans h.size k.size, fun i hi hb => (k.block i hi hb).trans (h.block i hi hb)⟩
theorem Kp.below {G b : Nat} {w w1 w2 : World} (h : Kp G b w w1) (k : Below w1.heap.size w1 w2) (hG : G ≤ w1.heap.size) : Kp G b w w2 := h.trans ⟨k.os, k.tape, k.output, k.size, fun i hi _ => k.block i (by omega)⟩
theorem Kp.set {G b : Nat} {w w1 : World} (h : Kp G b w w1) (i : Nat) (v : Value) : Kp G b w (w1.setCell ⟨b, i, none⟩ v) := h.trans ⟨rfl, rfl, rfl, by simp, fun j _ hb => Below.heap_setCell w1 ⟨b, i, none⟩ v j hb⟩
theorem lt_of_some {w : World} {b : Nat} {x : Obj} (h : w.heap[b]? = some x) : b < w.heap.size := (Array.getElem?_eq_some_iff.1 h).1
theorem BAt.later {G b : Nat} {p : Value} {bs : List Value} {w w' : World} (h : BAt G b p bs w) (hb : Below w.heap.size w w') : BAt G b p bs w' := by
  obtain ⟨v, h1, ⟨h2, h3⟩, h4⟩ := h
  refine ⟨v, (hb.block b (lt_of_some h1)).trans h1, ⟨h2, ?_⟩, h4⟩
  rcases h3 with h3 | ⟨g, cap, cur, e, k1, k2, k3⟩
  · exact .inl h3
  · exact .inr ⟨g, cap, cur, e, k1, (hb.block g (lt_of_some k2)).trans k2, k3⟩
theorem IsB.later {G b : Nat} {bs : List Value} {w w' : World} (h : IsB G b bs w) (hb : Below w.heap.size w w') : IsB G b bs w' := by
  rcases h with h | h
  · exact .inl (h.later hb)
  · exact .inr (h.later hb)
theorem IsB.fresh {G b : Nat} {w : World} (h : w.heap[b]? = some (.cells #[.pointer none, .slice none 0 0] 58 (0, 0))) : IsB G b [] w := .inl ⟨_, h, World.ownsRow_nil _ _ _ _, by simp [Value.ownBlock]⟩
theorem IsB.lib {G b : Nat} {bs : List Value} {w : World} (h : IsB G b bs w) (hb : b ≤ G) : Lib.IsBuilder 58 5 b b bs w := by
  have key : ∀ p, BAt G b p bs w → Lib.BuilderAt 58 5 b b p bs w := fun p ⟨v, h1, ⟨h2, h3⟩, h4⟩ => by
    refine ⟨Nat.le_refl _, v, h1, ⟨h2, ?_⟩, h4⟩
    rcases h3 with h3 | ⟨g, cap, cur, e, k1, k2⟩
    · exact .inl h3
    · exact .inr ⟨g, cap, cur, e, Nat.le_trans hb k1, k2⟩
  rcases h with h | h
  · exact .inl (key _ h)
  · exact .inr (key _ h)
set_option maxRecDepth 100000 in
set_option maxHeartbeats 1000000 in
theorem ccheck_used (b : Nat) (w : World) (h0 : w.cell? ⟨b, 0, none⟩ = some (.pointer (some ⟨b, 0, none⟩))) :
    Calls Tryd.prog 72 #[.pointer (some ⟨b, 0, none⟩)] w fun e w' => e = .returned (.tuple #[]) ∧ w' = w := by
  obtain ⟨j, hj, _⟩ := Option.map_eq_some_iff.1 bsize
  go_enter Tryd.func72, Tryd.ntmps72
  go_wp2_with fail
  rw [Lib.run_neq_ptr_same w _ Tryd.underlying55 hj]
  go_wp2_with fail
  refine bodyPost_end (results_none rfl _ _ _) rfl ?_
  exact ⟨rfl, rfl⟩
set_option maxRecDepth 100000 in
set_option maxHeartbeats 1000000 in
theorem ccheck_fresh (b : Nat) (w : World) (h0 : w.cell? ⟨b, 0, none⟩ = some (.pointer none)) (hsh : w.shape? b = some (58, 2)) (hfz : w.frozen? ⟨b, 0, none⟩ = false) :
    Calls Tryd.prog 72 #[.pointer (some ⟨b, 0, none⟩)] w fun e w' => e = .returned (.tuple #[]) ∧ w' = w.setCell ⟨b, 0, none⟩ (.pointer (some ⟨b, 0, none⟩)) := by
  obtain ⟨j, hj, hjs⟩ := Option.map_eq_some_iff.1 bsize
  go_enter Tryd.func72, Tryd.ntmps72
  go_wp2_with fail
  rw [Lib.run_to_unsafe w ⟨b, 0, none⟩ Tryd.underlying55 Tryd.underlying82 hj (by rw [hjs]; decide) hsh (Nat.zero_lt_succ 1)]
  simp only [Result.andThen]
  rw [Oper.upon_value]
  go_wp2_with fail
  rw [run_callFunc_extern Tryd.func78 (by kernel_rfl) (by kernel_rfl) (by kernel_rfl) (e := Extern.AbiNoEscape.same) (by kernel_rfl)]
  rw [Lib.run_noEscape]
  simp only [Result.andThen]
  rw [Oper.upon_value]
  go_wp2_with fail
  rw [Lib.run_from_unsafe w ⟨b, 0, none⟩ Tryd.underlying82 Tryd.underlying55 hj hsh blies]
  simp only [Result.andThen]
  rw [Oper.upon_value]
  go_wp2_with fail
  refine bodyPost_end (results_none rfl _ _ _) rfl ?_
  exact ⟨rfl, rfl⟩
theorem ccheck_any (G b : Nat) (bs : List Value) (w : World) (h : IsB G b bs w) :
    Calls Tryd.prog 72 #[.pointer (some ⟨b, 0, none⟩)] w fun e w' => e = .returned (.tuple #[]) ∧ (BAt G b (.pointer (some ⟨b, 0, none⟩)) bs w' ∧ Kp G b w w') := by
  have hl : Lib.IsBuilder 58 5 0 b bs w := by
    have key : ∀ p, BAt G b p bs w → Lib.BuilderAt 58 5 0 b p bs w := fun p ⟨v, h1, ⟨h2, h3⟩, h4⟩ => by
      refine ⟨Nat.zero_le _, v, h1, ⟨h2, ?_⟩, h4⟩
      rcases h3 with h3 | ⟨g, cap, cur, e, _, k2⟩
      · exact .inl h3
      · exact .inr ⟨g, cap, cur, e, Nat.zero_le _, k2⟩
    rcases h with h | h
    · exact .inl (key _ h)
    · exact .inr (key _ h)
  rcases h with ⟨v, h1, h2, h3⟩ | h
  · rcases hl with hl | hl
    · refine (ccheck_fresh b w hl.cell0 hl.shape hl.frozen0).mono ?_
      rintro e w' ⟨rfl, rfl⟩
      refine ⟨rfl, ⟨v, ?_, ?_, h3⟩, (Kp.refl G b w).set 0 _⟩
      · have := heap_setCell_same w b 0 _ 58 (.pointer (some ⟨b, 0, none⟩)) h1
        simpa using this
      · obtain ⟨h2, h4⟩ := h2
        refine ⟨h2, ?_⟩
        rcases h4 with h4 | ⟨g, cap, cur, e, k1, k2, k3⟩
        · exact .inl h4
        · refine .inr ⟨g, cap, cur, e, k1, (Below.heap_setCell w ⟨b, 0, none⟩ _ g fun e2 => h3 ?_).trans k2, k3⟩
          have e2 : g = b := e2
          rw [e, ← e2]; rfl
    · exact absurd (hl.cell0.symm.trans (Lib.cell_of_heap h1 0)) (by simp)
  · rcases hl with hl | hl
    · obtain ⟨v, h1, _⟩ := h
      exact absurd (hl.cell0.symm.trans (Lib.cell_of_heap h1 0)) (by simp)
    · refine (ccheck_used b w hl.cell0).mono ?_
      rintro e w' ⟨rfl, rfl⟩
      exact ⟨rfl, h, Kp.refl _ _ _⟩
theorem own_ge {w : World} {G n : Nat} {v : Value} {bs : List Value} (h : w.ownsRow G 5 1 v n bs) {k : Nat} (hk : v.ownBlock = some k) : G ≤ k := by
  rcases h.2 with ⟨e, _⟩ | ⟨g, cap, cur, e, k1, _⟩
  · rw [e] at hk; simp [Value.ownBlock] at hk
  · rw [e] at hk; simp [Value.ownBlock] at hk; omega
theorem own_ne {w : World} {G n b : Nat} {v : Value} {bs : List Value} {cs : Array Value} (h : w.ownsRow G 5 1 v n bs) (hb : w.heap[b]? = some (.cells cs 58 (0, 0))) : v.ownBlock ≠ some b := Lib.ownBlock_ne h hb (by decide)
theorem put_b {w : World} {G b : Nat} {p v v' : Value} {bs : List Value} (hb : w.heap[b]? = some (.cells #[p, v] 58 (0, 0))) (hown : w.ownsRow G 5 1 v' bs.length bs) : BAt G b p bs (w.setCell ⟨b, 1, none⟩ v') := by
  have hne := own_ne hown hb
  refine ⟨v', ?_, ⟨hown.1, ?_⟩, hne⟩
  · have := heap_setCell_same w b 1 _ 58 v' hb
    simpa using this
  · rcases hown.2 with h | ⟨g, cap, cur, e, k1, k2, k3⟩
    · exact .inl h
    · refine .inr ⟨g, cap, cur, e, k1, (Below.heap_setCell w ⟨b, 1, none⟩ _ g fun e2 => hne ?_).trans k2, k3⟩
      have e2 : g = b := e2
      rw [e, ← e2]; rfl
set_option maxRecDepth 100000 in
set_option maxHeartbeats 2000000 in
theorem wstring_any (G b : Nat) (bs : List Value) (s : ByteArray) (w : World) (h : IsB G b bs w) (hlen : bs.length + s.size ≤ 1000000) (hG : G ≤ w.heap.size) :
    Calls Tryd.prog 52 #[.pointer (some ⟨b, 0, none⟩), .string s] w fun e w' => e = .returned (.tuple #[.int .i64 s.size, .nilIface]) ∧ (IsB G b (bs ++ Lib.strCells s) w' ∧ Kp G b w w') := by
  obtain ⟨i0, hi, hz0, hz1, hz2⟩ := info_parts byteInfo
  have HC := Lib.hid (ccheck_any G b bs w h)
  clear h
  go_enter Tryd.func52, Tryd.ntmps52
  go_wp2_with fail
  refine HC.out.mono ?_
  rintro e w1 ⟨rfl, ⟨v, hbk, hown, hne⟩, hk1⟩
  have c0 : w1.cell? ⟨b, 0, none⟩ = some (.pointer (some ⟨b, 0, none⟩)) := by rw [Lib.cell_of_heap hbk]; rfl
  have c1 : w1.cell? ⟨b, 1, none⟩ = some v := by rw [Lib.cell_of_heap hbk]; rfl
  have hs1 := hk1.size
  go_wp2_with (at_builtin; refine Lib.wpList_append_own_string _ rfl _ _ 56 9 rfl G 5 i0 Tryd.underlying56 Tryd.underlying9 hi hz0 hz1 hz2 _ _ _ rfl hown s rfl ?c3 ?c4 ?c5 ?_)
  case c3 => unfold maxLen; omega
  case c4 => omega
  case c5 => omega
  intro v' w2 hown' hgrow _
  have hb2 : w2.heap[b]? = some (.cells #[.pointer (some ⟨b, 0, none⟩), v] 58 (0, 0)) := (hgrow.block b (lt_of_some hbk) (fun e => hne e.symm)).trans hbk
  have d0 : w2.cell? ⟨b, 0, none⟩ = some (.pointer (some ⟨b, 0, none⟩)) := by rw [Lib.cell_of_heap hb2]; rfl
  have d1 : w2.cell? ⟨b, 1, none⟩ = some v := by rw [Lib.cell_of_heap hb2]; rfl
  have f1 : w2.frozen? ⟨b, 1, none⟩ = false := Lib.frozen_of_heap hb2 1
  obtain ⟨ao, n', cap, rfl⟩ : ∃ ao n' cap, v' = .slice ao n' cap := by
    rcases hown'.2 with ⟨hv, _⟩ | ⟨g, cap, cur, hv, _⟩
    · exact ⟨_, _, _, hv⟩
    · exact ⟨_, _, _, hv⟩
  have hput := Lib.hid (put_b (G := G) hb2 (bs := bs ++ Lib.strCells s) (by simpa [Lib.strCells_length] using hown'))
  have hkk : Kp G b w w2 := hk1.trans ⟨hgrow.os, hgrow.tape, hgrow.output, hgrow.size, fun i hi hb => hgrow.block i (by omega) fun e => by have := own_ge hown e.symm; omega⟩
  have hbel := Lib.hid (hkk.set 1 (.slice ao n' cap))
  clear hown' hgrow hown hne hk1 hkk
  go_wp2_with fail
  refine bodyPost_ret (v := .tuple #[.int .i64 s.size, .nilIface]) (by simp [results, Tryd.results52, go_sem]) rfl ?_
  exact ⟨rfl, .inr hput.out, hbel.out⟩
set_option maxRecDepth 100000 in
set_option maxHeartbeats 2000000 in
theorem wbyte_any (G b : Nat) (bs : List Value) (c : Int) (w : World) (h : IsB G b bs w) (hlen : bs.length + 1 ≤ 1000000) (hG : G ≤ w.heap.size) :
    Calls Tryd.prog 51 #[.pointer (some ⟨b, 0, none⟩), .int .u8 c] w fun e w' => e = .returned .nilIface ∧ (IsB G b (bs ++ [.int .u8 c]) w' ∧ Kp G b w w') := by
  obtain ⟨i0, hi, hz0, hz1, hz2⟩ := info_parts byteInfo
  have HC := Lib.hid (ccheck_any G b bs w h)
  clear h
  go_enter Tryd.func51, Tryd.ntmps51
  go_wp2_with fail
  refine HC.out.mono ?_
  rintro e w1 ⟨rfl, ⟨v, hbk, hown, hne⟩, hk1⟩
  have c0 : w1.cell? ⟨b, 0, none⟩ = some (.pointer (some ⟨b, 0, none⟩)) := by rw [Lib.cell_of_heap hbk]; rfl
  have c1 : w1.cell? ⟨b, 1, none⟩ = some v := by rw [Lib.cell_of_heap hbk]; rfl
  have hs1 := hk1.size
  go_wp2_with (at_builtin; refine wpList_append_own _ rfl _ _ 56 rfl G 5 i0 (.int .u8 0) 1 1 Tryd.underlying56 hi hz0 hz1 hz2 rfl (by decide) _ _ _ rfl (hown.alloc _) ⟨w1.heap.size, 0, none⟩ 1 1 [.int .u8 c] rfl rfl ?c1 ?c2 ?c3 ?c4 ?c5 ?_)
  case c1 =>
    intro j u hj
    match j, hj with
    | 0, hj => simp at hj; subst hj; simp [Addr.add]
  case c2 => intro u hu; simp at hu; subst hu; rfl
  case c3 => unfold maxLen; omega
  case c4 => omega
  case c5 => simp; omega
  intro v' w2 hown' hgrow _
  have hlt := lt_of_some hbk
  have hb2 : w2.heap[b]? = some (.cells #[.pointer (some ⟨b, 0, none⟩), v] 58 (0, 0)) := by
    rw [hgrow.block b (by simp; omega) (fun e => hne e.symm), Lib.alloc_old w1 _ b hlt]
    exact hbk
  have d0 : w2.cell? ⟨b, 0, none⟩ = some (.pointer (some ⟨b, 0, none⟩)) := by rw [Lib.cell_of_heap hb2]; rfl
  have d1 : w2.cell? ⟨b, 1, none⟩ = some v := by rw [Lib.cell_of_heap hb2]; rfl
  have f1 : w2.frozen? ⟨b, 1, none⟩ = false := Lib.frozen_of_heap hb2 1
  obtain ⟨ao, n', cap, rfl⟩ : ∃ ao n' cap, v' = .slice ao n' cap := by
    rcases hown'.2 with ⟨hv, _⟩ | ⟨g, cap, cur, hv, _⟩
    · exact ⟨_, _, _, hv⟩
    · exact ⟨_, _, _, hv⟩
  have hput := Lib.hid (put_b (G := G) hb2 (bs := bs ++ [.int .u8 c]) (by simpa using hown'))
  have hkk : Kp G b w w2 := (hk1.below ((Below.refl _ _).alloc (Nat.le_refl _) (.cells #[.int .u8 c] 5)) (by omega)).trans ⟨hgrow.os, hgrow.tape, hgrow.output, hgrow.size, fun i hi hb => hgrow.block i (by simp; omega) fun e => by have := own_ge hown e.symm; omega⟩
  have hbel := Lib.hid (hkk.set 1 (.slice ao n' cap))
  clear hown' hgrow hown hne hk1 hkk
  go_wp2_with fail
  go_ret
  exact ⟨rfl, .inr hput.out, hbel.out⟩
end Go.Proofs.YtmhhjchnjaefhaaDoor

namespace Go.Proofs.YtmhhjchnjaefhaaDoor
open Go Go.RowKit
set_option maxRecDepth 100000 in
set_option maxHeartbeats 1000000 in
theorem csame_noA (Sa Ma : List Int) (La : Int) (aSa aMa : Option Addr) (cSa cMa : Nat) (Sb Mb : List Int) (Lb : Int) (aSb aMb : Option Addr) (cSb cMb : Nat) (w : World) (hSla : Sa.length ≤ 1000000000) (hMla : Ma.length ≤ 1000000000) (hva : vldB Sa Ma La = false) (hSa : IntsAt w aSa Sa) (hMa : IntsAt w aMa Ma) (_hSb : IntsAt w aSb Sb) (_hMb : IntsAt w aMb Mb) :
    Calls Tryd.prog 14 #[.agg #[.slice aSa Sa.length cSa, .slice aMa Ma.length cMa, .int .i64 La], .agg #[.slice aSb Sb.length cSb, .slice aMb Mb.length cMb, .int .i64 Lb]] w fun e w' => e = .returned (.bool false) ∧ Below w.heap.size w w' := by
  have HVa : Hid (∀ W', Below w.heap.size w W' → Calls Tryd.prog 18 #[.agg #[.slice aSa Sa.length cSa, .slice aMa Ma.length cMa, .int .i64 La]] W' fun e w' => e = .returned (.bool false) ∧ Below W'.heap.size W' w') := Lib.hid fun W' h => by
    have g := valid_any Sa Ma La aSa aMa cSa cMa W' (by omega) (by omega) (hSa.later h) (hMa.later h)
    rw [hva] at g; exact g
  have H0 := Lib.hid (((HH.start w).alloc #[.slice aSa Sa.length cSa, .slice aMa Ma.length cMa, .int .i64 La] 24 rfl rfl).alloc #[.slice aSb Sb.length cSb, .slice aMb Mb.length cMb, .int .i64 Lb] 24 (b := w.heap.size + 1) (by simp) rfl)
  clear hva hSa hMa
  generalize Sa.length = na at *
  generalize Ma.length = Na at *
  generalize Sb.length = nb at *
  generalize Mb.length = Nb at *
  go_enter Tryd.func14, Tryd.ntmps14
  have k00 := H0.out.cell (k := 0) (i := 0) rfl rfl
  have k01 := H0.out.cell (k := 0) (i := 1) rfl rfl
  have k02 := H0.out.cell (k := 0) (i := 2) rfl rfl
  have k10 := H0.out.cell (k := 1) (i := 0) rfl rfl
  have k11 := H0.out.cell (k := 1) (i := 1) rfl rfl
  have k12 := H0.out.cell (k := 1) (i := 2) rfl rfl
  go_wp2_with fail
  clear k00 k01 k02 k10 k11 k12
  refine (HVa.out _ H0.out.below).mono ?_
  rintro e w1 ⟨rfl, hb⟩
  have H1 := Lib.hid (H0.out.call hb)
  clear hb H0 
  go_wp2_with fail
  go_ret
  exact ⟨rfl, H1.out.below⟩
set_option maxRecDepth 100000 in
set_option maxHeartbeats 1000000 in
theorem csame_noB (Sa Ma : List Int) (La : Int) (aSa aMa : Option Addr) (cSa cMa : Nat) (Sb Mb : List Int) (Lb : Int) (aSb aMb : Option Addr) (cSb cMb : Nat) (w : World) (hSla : Sa.length ≤ 1000000000) (hMla : Ma.length ≤ 1000000000)(hSlb : Sb.length ≤ 1000000000) (hMlb : Mb.length ≤ 1000000000) (hva : vldB Sa Ma La = true) (hvb : vldB Sb Mb Lb = false) (hSa : IntsAt w aSa Sa) (hMa : IntsAt w aMa Ma) (hSb : IntsAt w aSb Sb) (hMb : IntsAt w aMb Mb) :
    Calls Tryd.prog 14 #[.agg #[.slice aSa Sa.length cSa, .slice aMa Ma.length cMa, .int .i64 La], .agg #[.slice aSb Sb.length cSb, .slice aMb Mb.length cMb, .int .i64 Lb]] w fun e w' => e = .returned (.bool false) ∧ Below w.heap.size w w' := by
  have HVa : Hid (∀ W', Below w.heap.size w W' → Calls Tryd.prog 18 #[.agg #[.slice aSa Sa.length cSa, .slice aMa Ma.length cMa, .int .i64 La]] W' fun e w' => e = .returned (.bool true) ∧ Below W'.heap.size W' w') := Lib.hid fun W' h => by
    have g := valid_any Sa Ma La aSa aMa cSa cMa W' (by omega) (by omega) (hSa.later h) (hMa.later h)
    rw [hva] at g; exact g
  have HVb : Hid (∀ W', Below w.heap.size w W' → Calls Tryd.prog 18 #[.agg #[.slice aSb Sb.length cSb, .slice aMb Mb.length cMb, .int .i64 Lb]] W' fun e w' => e = .returned (.bool false) ∧ Below W'.heap.size W' w') := Lib.hid fun W' h => by
    have g := valid_any Sb Mb Lb aSb aMb cSb cMb W' (by omega) (by omega) (hSb.later h) (hMb.later h)
    rw [hvb] at g; exact g
  have H0 := Lib.hid (((HH.start w).alloc #[.slice aSa Sa.length cSa, .slice aMa Ma.length cMa, .int .i64 La] 24 rfl rfl).alloc #[.slice aSb Sb.length cSb, .slice aMb Mb.length cMb, .int .i64 Lb] 24 (b := w.heap.size + 1) (by simp) rfl)
  clear hva hvb hSa hMa hSb hMb
  generalize Sa.length = na at *
  generalize Ma.length = Na at *
  generalize Sb.length = nb at *
  generalize Mb.length = Nb at *
  go_enter Tryd.func14, Tryd.ntmps14
  have k00 := H0.out.cell (k := 0) (i := 0) rfl rfl
  have k01 := H0.out.cell (k := 0) (i := 1) rfl rfl
  have k02 := H0.out.cell (k := 0) (i := 2) rfl rfl
  have k10 := H0.out.cell (k := 1) (i := 0) rfl rfl
  have k11 := H0.out.cell (k := 1) (i := 1) rfl rfl
  have k12 := H0.out.cell (k := 1) (i := 2) rfl rfl
  go_wp2_with fail
  clear k00 k01 k02 k10 k11 k12
  refine (HVa.out _ H0.out.below).mono ?_
  rintro e w1 ⟨rfl, hb⟩
  have H1 := Lib.hid (H0.out.call hb)
  clear hb H0 
  have k00 := H1.out.cell (k := 0) (i := 0) rfl rfl
  have k01 := H1.out.cell (k := 0) (i := 1) rfl rfl
  have k02 := H1.out.cell (k := 0) (i := 2) rfl rfl
  have k10 := H1.out.cell (k := 1) (i := 0) rfl rfl
  have k11 := H1.out.cell (k := 1) (i := 1) rfl rfl
  have k12 := H1.out.cell (k := 1) (i := 2) rfl rfl
  go_wp2_with fail
  clear k00 k01 k02 k10 k11 k12
  refine (HVb.out _ H1.out.below).mono ?_
  rintro e w2 ⟨rfl, hb⟩
  have H2 := Lib.hid (H1.out.call hb)
  clear hb H1 
  go_wp2_with fail
  go_ret
  exact ⟨rfl, H2.out.below⟩
set_option maxRecDepth 100000 in
set_option maxHeartbeats 1000000 in
theorem csame_yes (Sa Ma : List Int) (La : Int) (aSa aMa : Option Addr) (cSa cMa : Nat) (Sb Mb : List Int) (Lb : Int) (aSb aMb : Option Addr) (cSb cMb : Nat) (w : World) (hva : vldB Sa Ma La = true) (hvb : vldB Sb Mb Lb = true) (h20a : Sa.length ≤ 20) (h20b : Sb.length ≤ 20) (hSa : IntsAt w aSa Sa) (hMa : IntsAt w aMa Ma) (hSb : IntsAt w aSb Sb) (hMb : IntsAt w aMb Mb) :
    Calls Tryd.prog 14 #[.agg #[.slice aSa Sa.length cSa, .slice aMa Ma.length cMa, .int .i64 La], .agg #[.slice aSb Sb.length cSb, .slice aMb Mb.length cMb, .int .i64 Lb]] w fun e w' => e = .returned (.bool (decide (codeOf Sa Ma La = codeOf Sb Mb Lb))) ∧ Below w.heap.size w w' := by
  have hla := (vldB_shape hva).len
  have hlb := (vldB_shape hvb).len
  have HVa : Hid (∀ W', Below w.heap.size w W' → Calls Tryd.prog 18 #[.agg #[.slice aSa Sa.length cSa, .slice aMa Ma.length cMa, .int .i64 La]] W' fun e w' => e = .returned (.bool true) ∧ Below W'.heap.size W' w') := Lib.hid fun W' h => by
    have g := valid_any Sa Ma La aSa aMa cSa cMa W' (by omega) (by omega) (hSa.later h) (hMa.later h)
    rw [hva] at g; exact g
  have HVb : Hid (∀ W', Below w.heap.size w W' → Calls Tryd.prog 18 #[.agg #[.slice aSb Sb.length cSb, .slice aMb Mb.length cMb, .int .i64 Lb]] W' fun e w' => e = .returned (.bool true) ∧ Below W'.heap.size W' w') := Lib.hid fun W' h => by
    have g := valid_any Sb Mb Lb aSb aMb cSb cMb W' (by omega) (by omega) (hSb.later h) (hMb.later h)
    rw [hvb] at g; exact g
  have HCa : Hid (∀ W', Below w.heap.size w W' → Calls Tryd.prog 25 #[.agg #[.slice aSa Sa.length cSa, .slice aMa Ma.length cMa, .int .i64 La]] W' fun e w' => ∃ a c, e = .returned (.slice a (codeOf Sa Ma La).length c) ∧ Own w' W'.heap.size 3 a c (ints (codeOf Sa Ma La)) ∧ Below W'.heap.size W' w') := Lib.hid fun W' h => code_yes Sa Ma La aSa aMa cSa cMa W' hva h20a (hSa.later h) (hMa.later h)
  have HCb : Hid (∀ W', Below w.heap.size w W' → Calls Tryd.prog 25 #[.agg #[.slice aSb Sb.length cSb, .slice aMb Mb.length cMb, .int .i64 Lb]] W' fun e w' => ∃ a c, e = .returned (.slice a (codeOf Sb Mb Lb).length c) ∧ Own w' W'.heap.size 3 a c (ints (codeOf Sb Mb Lb)) ∧ Below W'.heap.size W' w') := Lib.hid fun W' h => code_yes Sb Mb Lb aSb aMb cSb cMb W' hvb h20b (hSb.later h) (hMb.later h)
  have HE : Hid (∀ (A B : Option Addr) (C D : Nat) W', IntsAt W' A (codeOf Sa Ma La) → IntsAt W' B (codeOf Sb Mb Lb) → Calls Tryd.prog 43 #[.slice A (codeOf Sa Ma La).length C, .slice B (codeOf Sb Mb Lb).length D] W' fun e w' => e = .returned (.bool (decide (codeOf Sa Ma La = codeOf Sb Mb Lb))) ∧ Below W'.heap.size W' w') := Lib.hid fun A B C D W' h1 h2 => sEq_any _ _ A B C D W' (codeOf_few hva h20a) h1 h2
  have H0 := Lib.hid (((HH.start w).alloc #[.slice aSa Sa.length cSa, .slice aMa Ma.length cMa, .int .i64 La] 24 rfl rfl).alloc #[.slice aSb Sb.length cSb, .slice aMb Mb.length cMb, .int .i64 Lb] 24 (b := w.heap.size + 1) (by simp) rfl)
  clear hva hvb hSa hMa hSb hMb hla hlb h20a h20b
  generalize decide (codeOf Sa Ma La = codeOf Sb Mb Lb) = r at *
  generalize codeOf Sa Ma La = Ca at *
  generalize codeOf Sb Mb Lb = Cb at *
  generalize Sa.length = na at *
  generalize Ma.length = Na at *
  generalize Sb.length = nb at *
  generalize Mb.length = Nb at *
  have HKS : Hid (∀ (W' : World) (s : List SlO), HH w W' [(w.heap.size, rowO 24 [.slice aSa na cSa, .slice aMa Na cMa, .int .i64 La]), (w.heap.size + 1, rowO 24 [.slice aSb nb cSb, .slice aMb Nb cMb, .int .i64 Lb])] s → W'.cell? ⟨w.heap.size, 0, none⟩ = some (.slice aSa na cSa) ∧ W'.cell? ⟨w.heap.size, 1, none⟩ = some (.slice aMa Na cMa) ∧ W'.cell? ⟨w.heap.size, 2, none⟩ = some (.int .i64 La) ∧ W'.cell? ⟨w.heap.size + 1, 0, none⟩ = some (.slice aSb nb cSb) ∧ W'.cell? ⟨w.heap.size + 1, 1, none⟩ = some (.slice aMb Nb cMb) ∧ W'.cell? ⟨w.heap.size + 1, 2, none⟩ = some (.int .i64 Lb)) := Lib.hid fun W' s h => ⟨h.cell (k := 0) (i := 0) rfl rfl, h.cell (k := 0) (i := 1) rfl rfl, h.cell (k := 0) (i := 2) rfl rfl, h.cell (k := 1) (i := 0) rfl rfl, h.cell (k := 1) (i := 1) rfl rfl, h.cell (k := 1) (i := 2) rfl rfl⟩
  go_enter Tryd.func14, Tryd.ntmps14
  have k00 := H0.out.cell (k := 0) (i := 0) rfl rfl
  have k01 := H0.out.cell (k := 0) (i := 1) rfl rfl
  have k02 := H0.out.cell (k := 0) (i := 2) rfl rfl
  have k10 := H0.out.cell (k := 1) (i := 0) rfl rfl
  have k11 := H0.out.cell (k := 1) (i := 1) rfl rfl
  have k12 := H0.out.cell (k := 1) (i := 2) rfl rfl
  go_wp2_with fail
  clear k00 k01 k02 k10 k11 k12
  refine (HVa.out _ H0.out.below).mono ?_
  rintro e w1 ⟨rfl, hb⟩
  have H1 := Lib.hid (H0.out.call hb)
  clear hb H0 
  have k00 := H1.out.cell (k := 0) (i := 0) rfl rfl
  have k01 := H1.out.cell (k := 0) (i := 1) rfl rfl
  have k02 := H1.out.cell (k := 0) (i := 2) rfl rfl
  have k10 := H1.out.cell (k := 1) (i := 0) rfl rfl
  have k11 := H1.out.cell (k := 1) (i := 1) rfl rfl
  have k12 := H1.out.cell (k := 1) (i := 2) rfl rfl
  go_wp2_with fail
  clear k00 k01 k02 k10 k11 k12
  refine (HVb.out _ H1.out.below).mono ?_
  rintro e w2 ⟨rfl, hb⟩
  have H2 := Lib.hid (H1.out.call hb)
  clear hb H1 
  have H4 := Lib.hid H2.out.drew
  have Q0 := Lib.hid (HKS.out _ _ H4.out)
  go_upto_region 3 with fail
  go_region_held3 (fun W' => W'.cell? ⟨w.heap.size, 0, none⟩ = some (.slice aSa na cSa) ∧ W'.cell? ⟨w.heap.size, 1, none⟩ = some (.slice aMa Na cMa) ∧ W'.cell? ⟨w.heap.size, 2, none⟩ = some (.int .i64 La) ∧ W'.cell? ⟨w.heap.size + 1, 0, none⟩ = some (.slice aSb nb cSb) ∧ W'.cell? ⟨w.heap.size + 1, 1, none⟩ = some (.slice aMb Nb cMb) ∧ W'.cell? ⟨w.heap.size + 1, 2, none⟩ = some (.int .i64 Lb))
    (first
      | with_reducible exact Q0.out
      | with_reducible exact Q5.out
      | with_reducible exact Q6.out
      | with_reducible exact Q7.out)
    (first
      | ((with_reducible refine (HCa.out _ H4.out.below).mono ?_); rintro e w5 ⟨A5, C5, rfl, ho, hb⟩; have H5 := Lib.hid (H4.out.addSl hb ho); have Q5 := Lib.hid (HKS.out _ _ H5.out); clear hb ho)
      | ((with_reducible refine (HCb.out _ H5.out.below).mono ?_); rintro e w6 ⟨A6, C6, rfl, ho, hb⟩; have H6 := Lib.hid (H5.out.addSl hb ho); have Q6 := Lib.hid (HKS.out _ _ H6.out); clear hb ho)
      | ((with_reducible refine (HE.out A5 A6 C5 C6 _ (H6.out.sl (k := 0) rfl).ints (H6.out.sl (k := 1) rfl).ints).mono ?_); rintro e w7 ⟨rfl, hb⟩; have H7 := Lib.hid (H6.out.call hb); have Q7 := Lib.hid (HKS.out _ _ H7.out); clear hb))
  go_wp2_with fail
  go_ret
  exact ⟨rfl, H7.out.below⟩
/-- .. what it answers. -/
noncomputable def cSame (S M : List Int) (L : Int) (T N : List Int) (K : Int) : Bool := vldB S M L && (vldB T N K && decide (codeOf S M L = codeOf T N K))
theorem csame_any (Sa Ma : List Int) (La : Int) (aSa aMa : Option Addr) (cSa cMa : Nat) (Sb Mb : List Int) (Lb : Int) (aSb aMb : Option Addr) (cSb cMb : Nat) (w : World) (hSla : Sa.length ≤ 1000000000) (hMla : Ma.length ≤ 1000000000) (hSlb : Sb.length ≤ 1000000000) (hMlb : Mb.length ≤ 1000000000) (h20a : Sa.length ≤ 20) (h20b : Sb.length ≤ 20) (hSa : IntsAt w aSa Sa) (hMa : IntsAt w aMa Ma) (hSb : IntsAt w aSb Sb) (hMb : IntsAt w aMb Mb) :
    Calls Tryd.prog 14 #[.agg #[.slice aSa Sa.length cSa, .slice aMa Ma.length cMa, .int .i64 La], .agg #[.slice aSb Sb.length cSb, .slice aMb Mb.length cMb, .int .i64 Lb]] w fun e w' => e = .returned (.bool (cSame Sa Ma La Sb Mb Lb)) ∧ Below w.heap.size w w' := by
  unfold cSame
  cases hva : vldB Sa Ma La
  · exact csame_noA Sa Ma La aSa aMa cSa cMa Sb Mb Lb aSb aMb cSb cMb w hSla hMla hva hSa hMa hSb hMb
  · cases hvb : vldB Sb Mb Lb
    · exact csame_noB Sa Ma La aSa aMa cSa cMa Sb Mb Lb aSb aMb cSb cMb w hSla hMla hSlb hMlb hva hvb hSa hMa hSb hMb
    · exact csame_yes Sa Ma La aSa aMa cSa cMa Sb Mb Lb aSb aMb cSb cMb w hva hvb h20a h20b hSa hMa hSb hMb
end Go.Proofs.YtmhhjchnjaefhaaDoor


namespace Go.Proofs.YtmhhjchnjaefhaaDoor
open Go Go.RowKit
/-- The code of a diagram, valid or not. -/
noncomputable def cdV (S M : List Int) (L : Int) : List Int := if vldB S M L = true then codeOf S M L else []
theorem cdV_yes {S M : List Int} {L : Int} (h : vldB S M L = true) : cdV S M L = codeOf S M L := if_pos h
theorem cdV_no {S M : List Int} {L : Int} (h : vldB S M L = false) : cdV S M L = [] := if_neg (by rw [h]; decide)
theorem code_any (S M : List Int) (L : Int) (aS aM : Option Addr) (cS cM : Nat) (w : World) (hSl : S.length ≤ 20) (hMl : M.length ≤ 1000000000) (hS : IntsAt w aS S) (hM : IntsAt w aM M) :
    Calls Tryd.prog 25 #[.agg #[.slice aS S.length cS, .slice aM M.length cM, .int .i64 L]] w fun e w' => ∃ a c, e = .returned (.slice a (cdV S M L).length c) ∧ Own w' w.heap.size 3 a c (ints (cdV S M L)) ∧ Below w.heap.size w w' := by
  cases hv : vldB S M L
  · rw [cdV_no hv]
    refine (code_no S M L aS aM cS cM w (by omega) hMl hv hS hM).mono ?_
    rintro e w' ⟨rfl, hb⟩
    exact ⟨none, 0, rfl, Own.nil _ _ _, hb⟩
  · rw [cdV_yes hv]
    exact code_yes S M L aS aM cS cM w hv hSl hS hM
/-- Numbers that a code holds: -1, or from 0 to 99. -/
def Sml (x : Int) : Prop := x = -1 ∨ (0 ≤ x ∧ x < 100)
theorem codeL_sml {S M : List Int} {L : Int} (hs : Shape S M L) (h20 : S.length ≤ 20) {r : Nat} (hr : r < S.length) : ∀ x, x ∈ codeL S M r S.length → Sml x := fun x hx => by
  have hm : ∀ x, x < 4 * S.length → mt M x < 4 * S.length := fun x hx => hs.mt_lt hx
  have ho : ∀ c, c ∈ ordL M r S.length → c < S.length := ordTo_lt hm hr S.length
  have hln : (ordL M r S.length).length ≤ S.length := ordTo_len hm hr S.length
  unfold codeL codeTo at hx
  obtain ⟨j, hj, hx⟩ := List.mem_flatMap.1 hx
  have hj := List.mem_range.1 hj
  have hc := ho _ (getD_mem hj)
  unfold rowC at hx
  rcases List.mem_cons.1 hx with rfl | hx
  · rcases hs.sign _ hc with e | e
    · rw [e]; exact .inr ⟨by decide, by decide⟩
    · rw [e]; exact .inl rfl
  · obtain ⟨s, _, rfl⟩ := List.mem_map.1 hx
    have : (ordL M r S.length).idxOf (mt M (4 * (ordL M r S.length).getD j 0 + s) / 4) ≤ (ordL M r S.length).length := List.idxOf_le_length
    exact .inr ⟨by omega, by omega⟩
theorem codeOf_sml {S M : List Int} {L : Int} (hv : vldB S M L = true) (h20 : S.length ≤ 20) : ∀ x, x ∈ codeOf S M L → Sml x := fun x hx => by
  have hs := vldB_shape hv
  have hlo := hs.lo
  have hhi := hs.hi
  have hcs : ∀ l, l ∈ codesL S M S.length → ∃ r, r < S.length ∧ l = codeL S M r S.length := fun l hl => by
    have hl := (List.mergeSort_perm _ _).mem_iff.1 hl
    obtain ⟨q, hq, rfl⟩ := List.mem_map.1 hl
    obtain ⟨G, hG, rfl⟩ := List.mem_map.1 hq
    obtain ⟨c, hc, rfl⟩ := List.mem_map.1 hG
    obtain ⟨r, hr, e1, _⟩ := (pie_is S M S.length (cls_pos (M := M) (n := S.length) (mem_leadsN.1 hc).1)).at_
    exact ⟨r, (mem_clsN.1 hr).1, e1⟩
  have hn : (codesL S M S.length).length ≤ 20 := by
    unfold codesL srtC pinf
    rw [List.length_mergeSort, List.length_map, List.length_map]
    exact Nat.le_trans (grp_len M S.length) h20
  unfold codeOf encC at hx
  rcases List.mem_cons.1 hx with rfl | hx
  · exact .inr ⟨hlo, by omega⟩
  · rcases List.mem_cons.1 hx with rfl | hx
    · exact .inr ⟨by omega, by omega⟩
    · obtain ⟨c, hc, hx⟩ := List.mem_flatMap.1 hx
      obtain ⟨r, hr, rfl⟩ := hcs c hc
      rcases List.mem_cons.1 hx with rfl | hx
      · have := ordTo_len (M := M) (fun x hx => hs.mt_lt hx) hr S.length
        rw [codeL_len]
        unfold ordL
        exact .inr ⟨by omega, by omega⟩
      · exact codeL_sml hs h20 hr x hx
theorem cdV_sml (S M : List Int) (L : Int) (h20 : S.length ≤ 20) : ∀ x, x ∈ cdV S M L → Sml x := by
  cases hv : vldB S M L
  · rw [cdV_no hv]; intro x h; simp at h
  · rw [cdV_yes hv]; exact codeOf_sml hv h20
theorem cdV_few (S M : List Int) (L : Int) (h20 : S.length ≤ 20) : (cdV S M L).length ≤ 2100 := by
  cases hv : vldB S M L
  · rw [cdV_no hv]; simp
  · rw [cdV_yes hv]; exact codeOf_few2 hv h20
theorem dig_len {u : Nat} (h : u < 100) : (Lib.decDigits u).length ≤ 2 := by
  rw [Lib.decDigits]
  split
  · simp
  · rw [Lib.decDigits, dif_pos (by omega)]
    simp
theorem itoa_len {x : Int} (h : Sml x) : (Lib.itoa x).length ≤ 2 := by
  unfold Lib.itoa
  rcases h with rfl | ⟨h1, h2⟩
  · rw [if_pos (by decide), show (-1 : Int).natAbs = 1 from rfl, Lib.decDigits, dif_pos (by decide)]; simp
  · rw [if_neg (by omega)]; exact dig_len (by omega)
/-- The first i numbers as a text. -/
def keyT (l : List Int) : Nat → List UInt8
  | 0 => []
  | i + 1 => keyT l i ++ (if 0 < i then [44] else []) ++ Lib.itoa (nth l i)
def keyOf (l : List Int) : List UInt8 := keyT l l.length
theorem keyT_len {l : List Int} (h : ∀ x, x ∈ l → Sml x) : ∀ i, i ≤ l.length → (keyT l i).length ≤ 3 * i
  | 0, _ => Nat.le_refl _
  | i + 1, hi => by
    have h1 := keyT_len h i (by omega)
    have h2 := itoa_len (h (nth l i) (nth_mem l i hi))
    rw [keyT, List.length_append, List.length_append]
    split <;> simp <;> omega
theorem cells_app (a b : List UInt8) : Lib.byteCells (a ++ b) = Lib.byteCells a ++ Lib.byteCells b := by simp [Lib.byteCells]
abbrev Pow10 (w : World) : Prop := Lib.TabIs Tryd.prog w "internal/strconv.uint64pow10" .u64 Lib.pow10Tab
theorem Pow10.later {w w' : World} (h : Pow10 w) (hb : Below w.heap.size w w') : Pow10 w' := Lib.tabBelow_of_tabIs h w' hb
theorem itoa_any (x : Int) (h : Sml x) (w : World) (ht : Pow10 w) : Calls Tryd.prog 29 #[.int .i64 x] w fun e w' => e = .returned (.string ⟨(Lib.itoa x).toArray⟩) ∧ Below w.heap.size w w' := by
  refine (Tryd.strconv_Itoa x (by rcases h with rfl | h <;> omega) (by rcases h with rfl | h <;> omega) w ht).mono ?_
  rintro e w' ⟨rfl, k, os, rfl⟩
  exact ⟨rfl, Lib.below_grow _ w (Nat.le_refl _) k os⟩
theorem Kp.low {G b B : Nat} {w w' : World} (h : Kp G b w w') (hb : B ≤ b) (hG : B ≤ G) : Below B w w' := ⟨h.os, h.tape, h.output, h.size, fun i hi => h.block i (by omega) (by omega)⟩
set_option maxRecDepth 100000 in
set_option maxHeartbeats 1000000 in
theorem key_any (S M : List Int) (L : Int) (aS aM : Option Addr) (cS cM : Nat) (w : World) (hSl : S.length ≤ 20) (hMl : M.length ≤ 1000000000) (ht : Pow10 w) (hS : IntsAt w aS S) (hM : IntsAt w aM M) :
    Calls Tryd.prog 24 #[.agg #[.slice aS S.length cS, .slice aM M.length cM, .int .i64 L]] w fun e w' => e = .returned (.string ⟨(keyOf (cdV S M L)).toArray⟩) ∧ Below w.heap.size w w' := by
  have HC : Hid (∀ W', Below w.heap.size w W' → Calls Tryd.prog 25 #[.agg #[.slice aS S.length cS, .slice aM M.length cM, .int .i64 L]] W' fun e w' => ∃ a c, e = .returned (.slice a (cdV S M L).length c) ∧ Own w' W'.heap.size 3 a c (ints (cdV S M L)) ∧ Below W'.heap.size W' w') := Lib.hid fun W' h => code_any S M L aS aM cS cM W' hSl hMl (hS.later h) (hM.later h)
  have HSm := Lib.hid (cdV_sml S M L hSl)
  have hfew := cdV_few S M L hSl
  have HT : Hid (∀ w', Below w.heap.size w w' → Pow10 w') := Lib.hid fun w' h => ht.later h
  have H0 := Lib.hid (((HH.start w).alloc #[.slice aS S.length cS, .slice aM M.length cM, .int .i64 L] 24 rfl rfl).alloc #[.pointer none, .slice none 0 0] 58 (b := w.heap.size + 1) (by simp) rfl)
  clear hS hM ht
  generalize cdV S M L = cd at *
  generalize S.length = n at *
  generalize M.length = N at *
  go_enter Tryd.func24, Tryd.ntmps24
  have k0 := H0.out.cell (k := 0) (i := 0) rfl rfl
  have k1 := H0.out.cell (k := 0) (i := 1) rfl rfl
  have k2 := H0.out.cell (k := 0) (i := 2) rfl rfl
  go_wp2_with fail
  clear k0 k1 k2
  refine (HC.out _ H0.out.below).mono ?_
  rintro e w2 ⟨A, C, rfl, ho, hb⟩
  have H2 := Lib.hid (H0.out.call hb)
  have HA : Hid (∀ i, i < cd.length → ∃ bA oA, A = some ⟨bA, oA, none⟩ ∧ bA < w2.heap.size ∧ bA ≠ w.heap.size + 1 ∧ w2.cell? ⟨bA, oA + i, none⟩ = some (.int .i64 (nth cd i))) := Lib.hid fun i hi => by
    have hI := ho.ints
    obtain ⟨bA, oA, rfl, hl, hc⟩ := hI.open (by omega)
    have h1 := (ho.lt rfl).1
    simp at h1
    exact ⟨bA, oA, rfl, hl, by omega, hc i hi⟩
  have HB0 : Hid (IsB w2.heap.size (w.heap.size + 1) (Lib.byteCells (keyT cd 0)) w2) := Lib.hid (IsB.fresh (H2.out.row (k := 1) rfl))
  have HW : Hid (∀ wr, Kp w2.heap.size (w.heap.size + 1) w2 wr → Below w.heap.size w wr) := Lib.hid fun wr h => H2.out.below.trans (h.low (by omega) H2.out.below.size)
  have hbl := H2.out.lt (x := (w.heap.size + 1, rowO 58 [.pointer none, .slice none 0 0])) (by simp)
  have HL : Hid (w.heap.size + 1 < w2.heap.size) := Lib.hid hbl
  have HN0 : Hid (w.heap.size ≤ w.heap.size + 1) := Lib.hid (Nat.le_succ _)
  clear ho hb HC H0 H2 hbl
  generalize w.heap.size + 1 = b at *
  generalize hG : w2.heap.size = G at *
  have HG := Lib.hid hG
  clear hG
  go_wp2_with fail
  go_loopg [9] cd.length (fun g v wr => ∃ i : Nat, i ≤ cd.length ∧ g = cd.length - i ∧ v = .int .i64 i ∧ Hid (IsB G b (Lib.byteCells (keyT cd i)) wr ∧ Kp G b w2 wr ∧ G ≤ wr.heap.size))
  case atStart => exact ⟨0, Nat.zero_le _, rfl, rfl, Lib.hid ⟨HB0.out, Kp.refl _ _ _, Nat.le_of_eq HG.out.symm⟩⟩
  case round =>
    obtain ⟨i, hi, rfl, rfl, HR⟩ := hrel
    clear HB0
    by_cases hil : i < cd.length
    · obtain ⟨bA, oA, rfl, hl, hne, hc⟩ := HA.out i hil
      have c1 : wr.cell? ⟨bA, oA + i, none⟩ = some (.int .i64 (nth cd i)) := by
        rw [World.cell?_of_block (w := w2) (w' := wr) (a := ⟨bA, oA + i, none⟩) (HR.out.2.1.block bA hl hne)]; exact hc
      have HX := Lib.hid (HSm.out _ (nth_mem cd i hil))
      have hkl := keyT_len HSm.out i hi
      have hxl := itoa_len HX.out
      have HK : Hid (keyT cd (i + 1) = keyT cd i ++ (if 0 < i then [44] else []) ++ Lib.itoa (nth cd i)) := Lib.hid rfl
      clear hc hl hne
      generalize nth cd i = x at *
      by_cases h0 : i = 0
      · have d1 : decide (0 < (i : Int)) = false := decide_eq_false (by omega)
        have d2 : decide (0 < i) = false := decide_eq_false (by omega)
        have d3 : ¬ (0 < (i : Int)) := by omega
        have d4 : ¬ (0 < i) := by omega
        rw [if_neg d4, List.append_nil] at HK
        clear h0
        go_wp2_with fail
        refine (itoa_any x HX.out wr (HT.out _ (HW.out _ HR.out.2.1))).mono ?_
        rintro e w5 ⟨rfl, hb⟩
        have HR5 : Hid (IsB G b (Lib.byteCells (keyT cd i)) w5 ∧ Kp G b w2 w5 ∧ G ≤ w5.heap.size) := Lib.hid ⟨HR.out.1.later hb, HR.out.2.1.below hb HR.out.2.2, Nat.le_trans HR.out.2.2 hb.size⟩
        clear hb HR
        go_wp2_with fail
        refine (wstring_any G b (Lib.byteCells (keyT cd i)) ⟨(Lib.itoa x).toArray⟩ w5 HR5.out.1 (by rw [Lib.byteCells_length]; show _ + (Lib.itoa x).toArray.size ≤ _; rw [List.size_toArray]; omega) HR5.out.2.2).mono ?_
        rintro e w6 ⟨rfl, hb1, hb2⟩
        have HR6 : Hid (IsB G b (Lib.byteCells (keyT cd (i + 1))) w6 ∧ Kp G b w2 w6 ∧ G ≤ w6.heap.size) := Lib.hid ⟨by rw [HK.out, cells_app, ← Lib.strCells_toArray (Lib.itoa x)]; exact hb1, HR5.out.2.1.trans hb2, Nat.le_trans HR5.out.2.2 hb2.size⟩
        clear hb1 hb2 HR5
        go_wp2_with fail
        go_roundg (cd.length - (i + 1))
        case measure => omega
        case rel => exact ⟨i + 1, by omega, rfl, by go_num, HR6⟩
      · have d1 : decide (0 < (i : Int)) = true := decide_eq_true (by omega)
        have d2 : decide (0 < i) = true := decide_eq_true (by omega)
        rw [if_pos (by omega)] at HK
        clear h0
        go_wp2_with fail
        refine (wbyte_any G b (Lib.byteCells (keyT cd i)) 44 wr HR.out.1 (by rw [Lib.byteCells_length]; omega) HR.out.2.2).mono ?_
        rintro e w4 ⟨rfl, hb1, hb2⟩
        have HR4 : Hid (IsB G b (Lib.byteCells (keyT cd i ++ [44])) w4 ∧ Kp G b w2 w4 ∧ G ≤ w4.heap.size) := Lib.hid ⟨by rw [cells_app]; exact hb1, HR.out.2.1.trans hb2, Nat.le_trans HR.out.2.2 hb2.size⟩
        clear hb1 hb2 HR
        go_wp2_with fail
        refine (itoa_any x HX.out w4 (HT.out _ (HW.out _ HR4.out.2.1))).mono ?_
        rintro e w5 ⟨rfl, hb⟩
        have HR5 : Hid (IsB G b (Lib.byteCells (keyT cd i ++ [44])) w5 ∧ Kp G b w2 w5 ∧ G ≤ w5.heap.size) := Lib.hid ⟨HR4.out.1.later hb, HR4.out.2.1.below hb HR4.out.2.2, Nat.le_trans HR4.out.2.2 hb.size⟩
        clear hb HR4
        go_wp2_with fail
        refine (wstring_any G b (Lib.byteCells (keyT cd i ++ [44])) ⟨(Lib.itoa x).toArray⟩ w5 HR5.out.1 (by rw [Lib.byteCells_length, List.length_append]; show _ + (Lib.itoa x).toArray.size ≤ _; rw [List.size_toArray]; simp; omega) HR5.out.2.2).mono ?_
        rintro e w6 ⟨rfl, hb1, hb2⟩
        have HR6 : Hid (IsB G b (Lib.byteCells (keyT cd (i + 1))) w6 ∧ Kp G b w2 w6 ∧ G ≤ w6.heap.size) := Lib.hid ⟨by rw [HK.out, cells_app, ← Lib.strCells_toArray (Lib.itoa x)]; exact hb1, HR5.out.2.1.trans hb2, Nat.le_trans HR5.out.2.2 hb2.size⟩
        clear hb1 hb2 HR5
        go_wp2_with fail
        go_roundg (cd.length - (i + 1))
        case measure => omega
        case rel => exact ⟨i + 1, by omega, rfl, by go_num, HR6⟩
    · obtain rfl : i = cd.length := by omega
      go_wp2_with fail
      refine (Tryd.Builder_String_any b b (keyT cd cd.length) wr (HR.out.1.lib (Nat.le_of_lt HL.out)) (by have := HL.out; have := HR.out.2.2; omega)).mono ?_
      rintro e w3 ⟨rfl, hb3⟩
      have HF : Hid (Below w.heap.size w w3) := Lib.hid ((HW.out _ HR.out.2.1).trans (hb3.mono (HN0.out)))
      clear hb3
      go_wp2_with fail
      go_ret
      exact ⟨rfl, HF.out⟩
end Go.Proofs.YtmhhjchnjaefhaaDoor

