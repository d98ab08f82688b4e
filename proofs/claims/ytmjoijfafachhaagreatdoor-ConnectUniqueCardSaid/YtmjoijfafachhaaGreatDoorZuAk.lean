/- connect.part: a part of a diagram by itself. Lists of diagrams in memory: three cells each; append. -/
import Derived.WalkKit
import Derived.WalkSpells
import Derived.WalkLawsBesides
import Derived.Deep.AppendSrc
import Derived.Deep.LoopGhost
import Derived.Deep.QuietTactic
import Derived.Deep.RegionWith
import Derived.Deep.DeepMust
import Derived.Deep.DeepFit
import Derived.BigQuiet
import Derived.Lib.Hide
import Derived.Outline
import Derived.Test.YtmjoijfafachhaaGreatDoorProg
import Derived.Deep.Matrix
import Derived.Deep.DeepCutAuto
import Derived.Deep.RegionLaw
import Derived.Deep.RegionHeld3
import Derived.Test.YtmjoijfafachhaaGreatDoorZuAa
import Derived.Test.YtmjoijfafachhaaGreatDoorZuAb
import Derived.Test.YtmjoijfafachhaaGreatDoorZuAc
import Derived.Test.YtmjoijfafachhaaGreatDoorZuAd
import Derived.Test.YtmjoijfafachhaaGreatDoorZuAe
import Derived.Test.YtmjoijfafachhaaGreatDoorZuAf
import Derived.Test.YtmjoijfafachhaaGreatDoorZuAg
import Derived.Test.YtmjoijfafachhaaGreatDoorZuAh
import Derived.Test.YtmjoijfafachhaaGreatDoorZuAj
namespace Go.Proofs.YtmjoijfafachhaaGreatDoor
open Go Go.RowKit
section
variable {w : World} {ops : Array Oper} {o : Oper} {a : Act}
/-- An append of one number at a step of a region that draws its order. -/
theorem step_append_one {K : Act → World → Prop} {Q : Exit → Act → World → Prop} {E : Prop} (hgd : o.guard = none) (s x : Operand) (ho : o.op = .call { callee := .builtin .append, args := #[s, x], argTypes := #[22, 22] })
    (B : Nat) (i : TypeInfo) (h2 : Tryz.prog.info? 3 = some i) (h3 : i.zero = some (.int .i64 0)) (h4 : i.size = 1) (h5 : i.bytes = 8) (A : Option Addr) (n c : Nat) (vs : List Value) (hs : a.eval s = .slice A n c) (hn : vs.length = n) (hown : Own w B 3 A c vs) (ad : Addr) (m' : Nat) (u : Value) (hx : a.eval x = .slice (some ad) 1 m') (hu : w.cell? ad = some u) (hu1 : u.oneCell' = true)
    (hn1 : n ≤ 1000000) (hB : B ≤ w.heap.size) (h : ∀ A' c' w', Own w' B 3 A' c' (vs ++ [u]) → Turned w w' A → (∀ x, A' = some x → (w.heap.size ≤ x.block ∨ ∃ y, A = some y ∧ x = y)) → K (a.put o.dst (.slice A' (n + 1) c')) w') :
    if Region.wanted o (yielded ops a.tmps) = true then Oper.wp Tryz.prog o a w K Q else E := by
  have hw : Region.wanted o (yielded ops a.tmps) = true := by simp [Region.wanted, hgd]
  rw [if_pos hw]
  subst hn
  obtain ⟨a', c', w', hrun, r1, r2, r3⟩ := run_append_one (P := Tryz.prog) w B 22 o.type 3 i (.int .i64 0) 8 Tryz.underlying22 h2 h3 h4 h5 rfl A c vs hown ad m' u hu hu1 (by omega) (by omega) hB
  unfold Oper.wp
  simp [execOp, ho, resolve, invoke, builtin, hs, hx, hrun, Result.andThen]
  exact h a' c' w' r1 r2 r3
end
def numTo (G : List Nat) (n : Nat) : Nat → List Int
  | 0 => List.replicate n 0
  | i + 1 => (numTo G n i).set (G.getD i 0) (i : Int)
theorem numTo_len (G : List Nat) (n i : Nat) : (numTo G n i).length = n := by
  induction i with
  | zero => simp [numTo]
  | succ i ih => show (List.set _ _ _).length = n; rw [List.length_set, ih]
theorem numTo_nth {G : List Nat} {n : Nat} (hlt : ∀ c ∈ G, c < n) (hnd : G.Nodup) : ∀ i, i ≤ G.length → ∀ j, j < i → nth (numTo G n i) (G.getD j 0) = (j : Int) := by
  intro i
  induction i with
  | zero => intro _ j h; omega
  | succ i ih =>
    intro hi j hj
    have mem : ∀ j, j < G.length → G.getD j 0 ∈ G := fun j hj => by
      rw [List.getD_eq_getElem?_getD, List.getElem?_eq_getElem hj]; exact List.getElem_mem hj
    show nth ((numTo G n i).set (G.getD i 0) (i : Int)) _ = _
    rw [nth_set _ _ _ _ (by rw [numTo_len]; exact hlt _ (mem i (by omega)))]
    by_cases e : i = j
    · subst e; rw [if_pos rfl]
    · rw [if_neg (fun g => e ?_)]
      · exact ih (by omega) j (by omega)
      · have h1 : G[i]? = G[j]? := by
          rw [getD_some (d := 0) (show i < G.length by omega), getD_some (d := 0) (show j < G.length by omega), g]
        exact (List.getElem?_inj (by omega) hnd).1 h1
def partMk (M : List Int) (G : List Nat) (k : Nat) : List Int := (List.range k).map fun k => partV M G (4 * G.getD (k / 4) 0 + k % 4)
theorem partMk_len (M : List Int) (G : List Nat) (k : Nat) : (partMk M G k).length = k := by simp [partMk]
theorem partMk_succ (M : List Int) (G : List Nat) (k : Nat) : partMk M G (k + 1) = partMk M G k ++ [partV M G (4 * G.getD (k / 4) 0 + k % 4)] := by simp [partMk, List.range_succ]
theorem partS_take {S : List Int} {G : List Nat} {i : Nat} (h : i < G.length) : partS S (G.take (i + 1)) = partS S (G.take i) ++ [nth S (G.getD i 0)] := by
  unfold partS
  rw [List.take_add_one, getD_some (d := 0) h, List.map_append]; rfl
theorem wrapi_mid {x : Int} (h0 : -1000000 ≤ x) (h1 : x ≤ 1000000) : IntKind.i64.wrap x = x := by
  rw [IntKind.wrap_i64]; omega
theorem wrap_mid {x : Int} (h0 : -1000000 ≤ x) (h1 : x ≤ 1000000) : wrap64 x = x := by
  unfold wrap64; omega
set_option maxRecDepth 100000 in
set_option maxHeartbeats 4000000 in
theorem part_num (k m : Nat) (hk : k < 64) (hm : m ≤ 255) : ∃ q k4 r V : Nat, IntKind.i64.wrap ((m : Int) / 4) = (q : Int) ∧ IntKind.i64.wrap (4 * (k : Int)) = (k4 : Int) ∧ (m : Int) % 4 = (r : Int) ∧ (m : Int).tmod 4 = (r : Int) ∧ IntKind.i64.wrap ((k4 : Int) + (r : Int)) = (V : Int) ∧ q = m / 4 ∧ (V : Int) = 4 * (k : Int) + (m : Int) % 4 := by
  refine ⟨m / 4, 4 * k, m % 4, 4 * k + m % 4, ?_, ?_, ?_, ?_, ?_, rfl, ?_⟩
  · rw [wrapi_mid (by omega) (by omega)]; omega
  · rw [wrapi_mid (by omega) (by omega)]; omega
  · omega
  · rw [Int.tmod_eq_emod_of_nonneg (by omega)]; omega
  · rw [wrapi_mid (by omega) (by omega)]; omega
  · omega
set_option maxRecDepth 100000 in
set_option maxHeartbeats 4000000 in
theorem part_any (S M : List Int) (L : Int) (aS aM aG : Option Addr) (cS cM cG : Nat) (G : List Nat) (w : World) (hv : vldB S M L = true) (hG : Whole M S.length G) (hS : IntsAt w aS S) (hM : IntsAt w aM M) (hGa : IntsAt w aG (nats G)) :
    Calls Tryz.prog 38 #[.agg #[.slice aS S.length cS, .slice aM M.length cM, .int .i64 L], .slice aG G.length cG] w fun e w' => ∃ a b c d, e = .returned (.agg #[.slice a G.length c, .slice b (4 * G.length) d, .int .i64 0]) ∧ Own w' w.heap.size 3 a c (ints (partS S G)) ∧ Own w' w.heap.size 3 b d (ints (partM M G)) ∧ Below w.heap.size w w' := by
  have hs := vldB_shape hv
  have hfw := hs.few
  have hGl : G.length ≤ S.length := by
    have := hG.nd.length_le_of_subset (l₂ := List.range S.length) fun c hc => List.mem_range.2 (hG.lt c hc)
    simpa using this
  have mem : ∀ j, j < G.length → G.getD j 0 ∈ G := fun j hj => (part_get hG hj).1
  have HGl : Hid (∀ j, j < G.length → G.getD j 0 < S.length) := Lib.hid fun j hj => hG.lt _ (mem j hj)
  have HMt : Hid (∀ i s, i < G.length → s < 4 → ∃ m k : Nat, nth M (4 * G.getD i 0 + s) = (m : Int) ∧ m / 4 < S.length ∧ nth (numTo G S.length G.length) (m / 4) = (k : Int) ∧ k < 64 ∧ 4 * (k : Int) + (m : Int) % 4 = partV M G (4 * G.getD i 0 + s)) := Lib.hid fun i s hi hs4 => by
    have hc := hG.lt _ (mem i hi)
    have hr := hs.range (4 * G.getD i 0 + s) (by omega)
    have hin := hG.cl _ (mem i hi) (mt M (4 * G.getD i 0 + s) / 4) ⟨s, hs4, rfl⟩
    have hix : idxI G (mt M (4 * G.getD i 0 + s) / 4) < G.length := List.idxOf_lt_length_iff.2 hin
    have hge : G.getD (idxI G (mt M (4 * G.getD i 0 + s) / 4)) 0 = mt M (4 * G.getD i 0 + s) / 4 := by
      rw [List.getD_eq_getElem?_getD, List.getElem?_eq_getElem hix]
      exact List.getElem_idxOf hix
    have hnm := numTo_nth hG.lt hG.nd G.length (Nat.le_refl _) _ hix
    rw [hge] at hnm
    refine ⟨mt M (4 * G.getD i 0 + s), idxI G (mt M (4 * G.getD i 0 + s) / 4), by unfold mt; omega, by unfold mt; omega, hnm, by omega, ?_⟩
    unfold partV; omega
  have hMl := hs.len
  have hmk := run_mk1 (T := 22) (z := .int .i64 0) (bytes := 8) Tryz.underlying22 Tryz.info3 rfl S.length S.length (Nat.le_refl _) (by omega) (by omega)
  obtain ⟨i0, hi0, hz0, hz1, hz2⟩ := info_parts Tryz.info3
  have HS := Lib.hid hS
  have HM := Lib.hid hM
  have HGa := Lib.hid hGa
  have H0 := Lib.hid (((HH.start w).alloc #[.slice aS S.length cS, .slice aM M.length cM, .int .i64 L] 24 rfl rfl).alloc #[.slice none 0 0, .slice none 0 0, .int .i64 0] 24 rfl rfl)
  rw [show (w.alloc (Obj.cells #[.slice aS S.length cS, .slice aM M.length cM, .int .i64 L] 24)).heap.size = w.heap.size + 1 by simp] at H0
  have H1 := Lib.hid (H0.out.alloc (Array.replicate S.length (.int .i64 0)) 3 rfl (vs := ints (numTo G S.length 0)) (by rw [replicate_ints]; rfl))
  have HMl1 : Hid (M.length = 4 * S.length) := Lib.hid hMl
  have c0 := H0.out.cell (k := 0) (i := 0) rfl rfl
  have h5 : M.length ≤ 4 * S.length := by omega
  have h6 : 4 * S.length ≤ M.length := by omega
  clear hs hv hS hM hGa hG hMl
  go_enter Tryz.func38, Tryz.ntmps38
  go_wp2_with fail
  have h2 := H1.out
  rw [show ((w.alloc (Obj.cells #[.slice aS S.length cS, .slice aM M.length cM, .int .i64 L] 24)).alloc (Obj.cells #[.slice none 0 0, .slice none 0 0, .int .i64 0] 24)).heap.size = w.heap.size + 2 by simp] at h2
  obtain ⟨v1, hv1⟩ : ∃ v, v = ((w.alloc (Obj.cells #[.slice aS S.length cS, .slice aM M.length cM, .int .i64 L] 24)).alloc (Obj.cells #[.slice none 0 0, .slice none 0 0, .int .i64 0] 24)).alloc (Obj.cells (Array.replicate S.length (Value.int IntKind.i64 0)) 3) := ⟨_, rfl⟩
  rw [← hv1]
  rw [← hv1] at h2
  have H2 : Hid (HH w v1 [(w.heap.size, rowO 24 [.slice aS S.length cS, .slice aM M.length cM, .int .i64 L]), (w.heap.size + 1, rowO 24 [.slice none 0 0, .slice none 0 0, .int .i64 0]), (w.heap.size + 2, rowO 3 (ints (numTo G S.length 0)))] []) := Lib.hid h2
  clear h2 hv1 H1 H0 c0 hmk
  go_loopg [19] G.length (fun g v wr => ∃ i : Nat, i ≤ G.length ∧ g = G.length - i ∧ v = .int .i64 i ∧ HH w wr [(w.heap.size, rowO 24 [.slice aS S.length cS, .slice aM M.length cM, .int .i64 L]), (w.heap.size + 1, rowO 24 [.slice none 0 0, .slice none 0 0, .int .i64 0]), (w.heap.size + 2, rowO 3 (ints (numTo G S.length i)))] [])
  case atStart => exact ⟨0, Nat.zero_le _, rfl, rfl, H2.out⟩
  case round =>
    obtain ⟨i, hi, rfl, rfl, hh⟩ := hrel
    have Hh := Lib.hid hh
    clear hh H2
    by_cases hil : i < G.length
    · obtain ⟨b2, o2, rfl, _, hcR⟩ := (HGa.out.later Hh.out.below).open (by rw [nats_length]; omega)
      have hcx := hcR i (by rw [nats_length]; exact hil)
      rw [nth_nats _ _ hil] at hcx
      have hg := HGl.out i hil
      have HN := Lib.hid (Hh.out.setInt (k := 2) rfl (G.getD i 0) (i : Int))
      have Hnx : Hid ((numTo G S.length i).set (G.getD i 0) (i : Int) = numTo G S.length (i + 1)) := Lib.hid rfl
      rw [Hnx.out] at HN
      have hcv := Hh.out.int (k := 2) rfl (G.getD i 0) (by rw [numTo_len]; exact hg)
      have hfv := Hh.out.frozen (k := 2) rfl (G.getD i 0)
      generalize G.getD i 0 = v at *
      have e1 : decide ((v : Int) < 0) = false := decide_eq_false (by omega)
      have e2 : decide ((S.length : Int) ≤ (v : Int)) = false := decide_eq_false (by omega)
      clear hcR Hnx
      go_wp2_with fail
      go_roundg (G.length - (i + 1))
      case measure => omega
      case rel => exact ⟨i + 1, by omega, rfl, by go_num, HN.out⟩
    · obtain rfl : i = G.length := by omega
      go_wp2_with fail
      have H3 : Hid (HH w (wr.alloc (Obj.cells #[.slice none 0 0, .slice none 0 0, .int .i64 0] 24)) [(w.heap.size, rowO 24 [.slice aS S.length cS, .slice aM M.length cM, .int .i64 L]), (w.heap.size + 1, rowO 24 [.slice none 0 0, .slice none 0 0, .int .i64 0]), (w.heap.size + 2, rowO 3 (ints (numTo G S.length G.length))), (wr.heap.size, rowO 24 [.slice none 0 0, .slice none 0 0, .int .i64 0])] [⟨none, 0, 3, ints (partS S (G.take 0))⟩, ⟨none, 0, 3, ints (partMk M G 0)⟩]) := Lib.hid (((Hh.out.alloc #[.slice none 0 0, .slice none 0 0, .int .i64 0] 24 rfl rfl).addNil 3).addNil 3)
      generalize wr.heap.size = qr at *
      go_loopg [31] G.length (fun g v wr => ∃ (i : Nat) (a b : Option Addr) (c d : Nat), i ≤ G.length ∧ g = G.length - i ∧ v = .int .i64 i ∧ HH w wr [(w.heap.size, rowO 24 [.slice aS S.length cS, .slice aM M.length cM, .int .i64 L]), (w.heap.size + 1, rowO 24 [.slice none 0 0, .slice none 0 0, .int .i64 0]), (w.heap.size + 2, rowO 3 (ints (numTo G S.length G.length))), (qr, rowO 24 [.slice a i c, .slice b (4 * i) d, .int .i64 0])] [⟨a, c, 3, ints (partS S (G.take i))⟩, ⟨b, d, 3, ints (partMk M G (4 * i))⟩])
      case atStart => exact ⟨0, none, none, 0, 0, Nat.zero_le _, rfl, rfl, H3.out⟩
      case round =>
        obtain ⟨i, a, b, c, d, hi, rfl, rfl, hh⟩ := hrel
        replace Hh := Lib.hid hh
        clear hh H3
        by_cases hil : i < G.length
        · obtain ⟨b2, o2, rfl, _, hcR⟩ := (HGa.out.later Hh.out.below).open (by rw [nats_length]; omega)
          have hcx := hcR i (by rw [nats_length]; exact hil)
          rw [nth_nats _ _ hil] at hcx
          have hg := HGl.out i hil
          have HMi : Hid (∀ s, s < 4 → ∃ m k : Nat, nth M (4 * G.getD i 0 + s) = (m : Int) ∧ m / 4 < S.length ∧ nth (numTo G S.length G.length) (m / 4) = (k : Int) ∧ k < 64 ∧ 4 * (k : Int) + (m : Int) % 4 = partV M G (4 * G.getD i 0 + s)) := Lib.hid fun s h => HMt.out i s hil h
          have HPs : Hid (partS S (G.take (i + 1)) = partS S (G.take i) ++ [nth S (G.getD i 0)]) := Lib.hid (partS_take hil)
          have HPm : Hid (∀ s, s < 4 → partMk M G (4 * i + s + 1) = partMk M G (4 * i + s) ++ [partV M G (4 * G.getD i 0 + s)]) := Lib.hid fun s h => by
            rw [partMk_succ, show (4 * i + s) / 4 = i by omega, show (4 * i + s) % 4 = s by omega]
          have Hsl : Hid ((ints (partS S (G.take i))).length = i) := Lib.hid (by rw [ints_length, partS_len, List.length_take]; omega)
          generalize G.getD i 0 = v at *
          clear hcR
          obtain ⟨b3, o3, rfl, _, hcS⟩ := (HS.out.later Hh.out.below).open (by omega)
          have hcs := hcS v hg
          have Ha := Lib.hid (Hh.out.call ((Below.refl _ _).alloc (Nat.le_refl _) (.cells #[.int .i64 (nth S v)] 3))).drew
          have c1 := Hh.out.cell (k := 3) (i := 0) rfl rfl
          have c2 := Hh.out.cell (k := 0) (i := 0) rfl rfl
          have c3 := Ha.out.cell (k := 3) (i := 0) rfl rfl
          have c4 := Ha.out.cell (k := 0) (i := 0) rfl rfl
          have c5 := ((HS.out.later Ha.out.below).open (by omega))
          have Hc0 : Hid ((wr.alloc (.cells #[.int .i64 (nth S v)] 3)).drew.cell? ⟨wr.heap.size, 0, none⟩ = some (.int .i64 (nth S v))) := Lib.hid ((Row.new wr #[.int .i64 (nth S v)] 3).cell 0)
          have Hl1 := Lib.hid Ha.out.below.size
          have e1 : decide ((v : Int) < 0) = false := decide_eq_false (by omega)
          have e2 : decide ((S.length : Int) ≤ (v : Int)) = false := decide_eq_false (by omega)
          have hil2 := hil
          clear hcS c5
          go_upto_region 11 with fail
          go_region_law ((refine step_append_one rfl (.tmp 36) (.tmp 42) rfl w.heap.size i0 hi0 hz0 hz1 hz2 a i c (ints (partS S (G.take i))) rfl Hsl.out (Ha.out.sl (k := 0) rfl) ⟨wr.heap.size, 0, none⟩ 1 (.int .i64 (nth S v)) rfl Hc0.out rfl (by omega) Hl1.out ?_); intro A3 e3 w5 hO2 hT2 hA2; have H6 := Ha.out.grow (k := 0) rfl hO2 hT2 hA2; have hd := H6.cell (k := 3) (i := 0) rfl rfl; have hf := H6.frozen (k := 3) rfl 0; have H7 := Lib.hid (H6.set (k := 3) rfl 0 (.slice A3 (i + 1) e3)); clear H6 hO2 hT2 hA2)
          all_goals
            clear hd hf c1 c2 c3 c4 Hc0 Hl1 Ha
            have H8 : Hid (HH w (w5.setCell ⟨qr, 0, none⟩ (.slice A3 (i + 1) e3)) [(w.heap.size, rowO 24 [.slice (some ⟨b3, o3, none⟩) S.length cS, .slice aM M.length cM, .int .i64 L]), (w.heap.size + 1, rowO 24 [.slice none 0 0, .slice none 0 0, .int .i64 0]), (w.heap.size + 2, rowO 3 (ints (numTo G S.length G.length))), (qr, rowO 24 [.slice A3 (i + 1) e3, .slice b (4 * i + 0) d, .int .i64 0])] [⟨A3, e3, 3, ints (partS S (G.take (i + 1)))⟩, ⟨b, d, 3, ints (partMk M G (4 * i + 0))⟩]) := Lib.hid (by
              rw [HPs.out, ← ints_snoc]
              exact H7.out)
            clear H7 Hh Hsl
            go_wp2_with fail
            go_loopg [45] 4 (fun g v wx => ∃ (s : Nat) (b : Option Addr) (d : Nat), s ≤ 4 ∧ g = 4 - s ∧ v = .int .i64 s ∧ HH w wx [(w.heap.size, rowO 24 [.slice (some ⟨b3, o3, none⟩) S.length cS, .slice aM M.length cM, .int .i64 L]), (w.heap.size + 1, rowO 24 [.slice none 0 0, .slice none 0 0, .int .i64 0]), (w.heap.size + 2, rowO 3 (ints (numTo G S.length G.length))), (qr, rowO 24 [.slice A3 (i + 1) e3, .slice b (4 * i + s) d, .int .i64 0])] [⟨A3, e3, 3, ints (partS S (G.take (i + 1)))⟩, ⟨b, d, 3, ints (partMk M G (4 * i + s))⟩])
            case atStart => exact ⟨0, b, d, by omega, rfl, rfl, H8.out⟩
            case round =>
              obtain ⟨s, b, d, hs4, rfl, rfl, hh⟩ := hrel
              have Hh := Lib.hid hh
              clear hh H8
              by_cases hsl : s < 4
              · obtain ⟨m, k, hm, hmn, hk, hk64, hpv⟩ := HMi.out s hsl
                have Hpm := Lib.hid (HPm.out s hsl)
                have Hpl : Hid ((ints (partMk M G (4 * i + s))).length = 4 * i + s) := Lib.hid (by rw [ints_length, partMk_len])
                have hm255 : m ≤ 255 := by omega
                obtain ⟨q4, k4, r4, V4, w1, w2, w3, w3', w4, hq4, hV4⟩ := part_num k m hk64 hm255
                rw [← hpv, ← hV4] at Hpm
                rw [← hq4] at hmn hk
                obtain ⟨b5, o5, rfl, _, hcM⟩ := (HM.out.later Hh.out.below).open (by omega)
                have hcm := hcM (4 * v + s) (by omega)
                rw [hm] at hcm
                have hnk := Hh.out.int (k := 2) rfl q4 (by rw [numTo_len]; exact hmn)
                rw [hk] at hnk
                have Ha := Lib.hid (Hh.out.call ((Below.refl _ _).alloc (Nat.le_refl _) (.cells #[.int .i64 (V4 : Int)] 3))).drew
                have c1 := Hh.out.cell (k := 3) (i := 1) rfl rfl
                have c2 := Hh.out.cell (k := 0) (i := 1) rfl rfl
                have c3 := Ha.out.cell (k := 3) (i := 1) rfl rfl
                have hnk2 := Ha.out.int (k := 2) rfl q4 (by rw [numTo_len]; exact hmn)
                rw [hk] at hnk2
                have Hc0 : Hid ((wr.alloc (.cells #[.int .i64 (V4 : Int)] 3)).drew.cell? ⟨wr.heap.size, 0, none⟩ = some (.int .i64 (V4 : Int))) := Lib.hid ((Row.new wr #[.int .i64 (V4 : Int)] 3).cell 0)
                have Hl1 := Lib.hid Ha.out.below.size
                clear hcM hpv hm hk hq4 hV4
                generalize partV M G (4 * v + s) = pv at *
                go_upto_region 16 with fail
                go_region_law ((refine step_append_one rfl (.tmp 57) (.tmp 67) rfl w.heap.size i0 hi0 hz0 hz1 hz2 b (4 * i + s) d (ints (partMk M G (4 * i + s))) rfl Hpl.out (Ha.out.sl (k := 1) rfl) ⟨wr.heap.size, 0, none⟩ 1 (.int .i64 (V4 : Int)) rfl Hc0.out rfl (by omega) Hl1.out ?_); intro A5 e5 w6 hO2 hT2 hA2; have H6 := Ha.out.grow (k := 1) rfl hO2 hT2 hA2; have hd := H6.cell (k := 3) (i := 1) rfl rfl; have hf := H6.frozen (k := 3) rfl 1; have H9 := Lib.hid (H6.set (k := 3) rfl 1 (.slice A5 (4 * i + s + 1) e5)); clear H6 hO2 hT2 hA2)
                all_goals
                  clear hd hf c1 c2 c3 hnk hnk2 hcm Hc0 Hl1 Ha
                  go_wp2_with fail
                  go_roundg (4 - (s + 1))
                  case measure => omega
                  case rel =>
                    refine ⟨s + 1, A5, e5, by omega, rfl, by go_num, ?_⟩
                    have h := H9.out
                    have e : 4 * i + (s + 1) = 4 * i + s + 1 := by omega
                    rw [e, Hpm.out, ← ints_snoc]
                    exact h
              · obtain rfl : s = 4 := by omega
                go_wp2_with fail
                go_roundg (G.length - (i + 1))
                case measure => omega
                case rel =>
                  refine ⟨i + 1, A3, b, e3, d, by omega, rfl, by go_num, ?_⟩
                  rw [show 4 * (i + 1) = 4 * i + 4 by omega]
                  exact Hh.out
        · obtain rfl : i = G.length := by omega
          have c1 := Hh.out.cell (k := 3) (i := 0) rfl rfl
          have c2 := Hh.out.cell (k := 3) (i := 1) rfl rfl
          have c3 := Hh.out.cell (k := 3) (i := 2) rfl rfl
          have d1 := Hh.out.cell (k := 1) (i := 0) rfl rfl
          have d2 := Hh.out.cell (k := 1) (i := 1) rfl rfl
          have d3 := Hh.out.cell (k := 1) (i := 2) rfl rfl
          have f1 := Hh.out.frozen (k := 1) rfl 0
          have f2 := Hh.out.frozen (k := 1) rfl 1
          have f3 := Hh.out.frozen (k := 1) rfl 2
          have H9 := ((Hh.out.set (k := 1) rfl 0 (.slice a G.length c)).set (k := 1) rfl 1 (.slice b (4 * G.length) d)).set (k := 1) rfl 2 (.int .i64 0)
          have hF0 := H9.cell (k := 1) (i := 0) rfl rfl
          have hF1 := H9.cell (k := 1) (i := 1) rfl rfl
          have hF2 := H9.cell (k := 1) (i := 2) rfl rfl
          have Hfin := Lib.hid H9
          clear H9
          go_wp2_with fail
          refine bodyPost_ret (v := .agg #[.slice a G.length c, .slice b (4 * G.length) d, .int .i64 0]) (by simp [results, Tryz.results38, go_sem, hF0, hF1, hF2]) rfl ?_
          refine ⟨_, _, _, _, rfl, ?_, Hfin.out.sl (k := 1) rfl, Hfin.out.below⟩
          have h := Hfin.out.sl (k := 0) rfl
          rw [List.take_length] at h
          exact h

end Go.Proofs.YtmjoijfafachhaaGreatDoor

namespace Go.Proofs.YtmjoijfafachhaaGreatDoor
open Go Go.RowKit
abbrev Dgm := List Int × List Int × Int
/-- Numbers that are read; their block is old, or a block of numbers. -/
def TI (w : World) (B0 : Nat) (a : Option Addr) (xs : List Int) : Prop := IntsAt w a xs ∧ ∀ x, a = some x → (x.block < B0 ∧ x.block < w.heap.size) ∨ ∃ cur, w.heap[x.block]? = some (.cells cur 3 (0, 0))
theorem TI.at {w : World} {B0 : Nat} {a : Option Addr} {xs : List Int} (h : TI w B0 a xs) : IntsAt w a xs := h.1
theorem TI.later {w w' : World} {B0 : Nat} {a : Option Addr} {xs : List Int} (h : TI w B0 a xs) (hb : Below w.heap.size w w') : TI w' B0 a xs :=
  ⟨h.1.later hb, fun x hx => by
    rcases h.2 x hx with ⟨g1, g2⟩ | ⟨cur, g⟩
    · exact .inl ⟨g1, Nat.lt_of_lt_of_le g2 hb.size⟩
    · exact .inr ⟨cur, (hb.block _ (lt_of_heap g)).trans g⟩⟩
theorem IntsAt.keptB {w w' : World} {a : Option Addr} {xs : List Int} (h : IntsAt w a xs) (hk : ∀ x, a = some x → w'.heap[x.block]? = w.heap[x.block]?) : IntsAt w' a xs := fun i v hv => by
  obtain ⟨b, off, e, hc⟩ := h i v hv
  refine ⟨b, off, e, ?_⟩
  have := hk _ e
  unfold World.cell? at hc ⊢
  rw [this]; exact hc
theorem TI.kept {w w' : World} {B0 : Nat} {a : Option Addr} {xs : List Int} (h : TI w B0 a xs) (hs : w.heap.size ≤ w'.heap.size) (hk : ∀ x, a = some x → w'.heap[x.block]? = w.heap[x.block]?) : TI w' B0 a xs :=
  ⟨h.1.keptB hk, fun x hx => by
    rcases h.2 x hx with ⟨g1, g2⟩ | ⟨cur, g⟩
    · exact .inl ⟨g1, Nat.lt_of_lt_of_le g2 hs⟩
    · exact .inr ⟨cur, (hk x hx).trans g⟩⟩
/-- A list of another type that turns leaves it alone. -/
theorem TI.turned {w w' : World} {B0 B : Nat} {a : Option Addr} {xs : List Int} (h : TI w B0 a xs) {E : TypeId} {A : Option Addr} {c : Nat} {vs : List Value} (hE : E ≠ 3) (hB : B0 ≤ B) (hA : Own w B E A c vs) (ht : Turned w w' A) : TI w' B0 a xs :=
  h.kept ht.size fun x hx => by
    have hlt : x.block < w.heap.size := by
      rcases h.2 x hx with ⟨_, g⟩ | ⟨cur, g⟩
      · exact g
      · exact lt_of_heap g
    refine ht.block _ hlt fun y hy e => ?_
    have hl := (hA.lt hy).1
    rcases h.2 x hx with ⟨g, _⟩ | ⟨cur, g⟩
    · omega
    · rcases hA with ⟨e0, _⟩ | ⟨b, off, cur2, e1, _, e2, _⟩
      · rw [e0] at hy; cases hy
      · rw [e1] at hy; cases hy
        have e : b = x.block := e
        rw [← e, e2] at g
        simp only [Option.some.injEq, Obj.cells.injEq] at g
        exact hE g.2.1
theorem TI.own {w : World} {B B0 : Nat} {a : Option Addr} {c : Nat} {xs : List Int} (h : Own w B 3 a c (ints xs)) : TI w B0 a xs := ⟨h.ints, fun x hx => by
  rcases h with ⟨e, _⟩ | ⟨b, off, cur, e, _, g, _⟩
  · rw [e] at hx; cases hx
  · rw [e] at hx; cases hx
    exact .inr ⟨cur, g⟩⟩
theorem TI.nil (w : World) (B0 : Nat) : TI w B0 none [] := ⟨IntsAt.nil _ _, fun _ h => by cases h⟩
/-- The cells hold these diagrams. -/
def CellsOf (w : World) (B0 : Nat) (vs : List Value) (ds : List Dgm) : Prop := vs.length = ds.length * 3 ∧ ∀ (i : Nat) (d : Dgm), ds[i]? = some d → ∃ a c b e, vs[i * 3]? = some (.slice a d.1.length c) ∧ vs[i * 3 + 1]? = some (.slice b d.2.1.length e) ∧ vs[i * 3 + 2]? = some (.int .i64 d.2.2) ∧ TI w B0 a d.1 ∧ TI w B0 b d.2.1
theorem CellsOf.nil (w : World) (B0 : Nat) : CellsOf w B0 [] [] := ⟨rfl, fun i d h => by simp at h⟩
theorem CellsOf.later {w w' : World} {B0 : Nat} {vs : List Value} {ds : List Dgm} (h : CellsOf w B0 vs ds) (hb : Below w.heap.size w w') : CellsOf w' B0 vs ds := ⟨h.1, fun i d hd => by
  obtain ⟨a, c, b, e, h1, h2, h3, h4, h5⟩ := h.2 i d hd
  exact ⟨a, c, b, e, h1, h2, h3, h4.later hb, h5.later hb⟩⟩
theorem CellsOf.turned {w w' : World} {B0 B : Nat} {vs : List Value} {ds : List Dgm} (h : CellsOf w B0 vs ds) {E : TypeId} {A : Option Addr} {c : Nat} {us : List Value} (hE : E ≠ 3) (hB : B0 ≤ B) (hA : Own w B E A c us) (ht : Turned w w' A) : CellsOf w' B0 vs ds := ⟨h.1, fun i d hd => by
  obtain ⟨a, c, b, e, h1, h2, h3, h4, h5⟩ := h.2 i d hd
  exact ⟨a, c, b, e, h1, h2, h3, h4.turned hE hB hA ht, h5.turned hE hB hA ht⟩⟩
theorem CellsOf.append {w : World} {B0 : Nat} {vs us : List Value} {ds es : List Dgm} (h : CellsOf w B0 vs ds) (g : CellsOf w B0 us es) : CellsOf w B0 (vs ++ us) (ds ++ es) := ⟨by rw [List.length_append, List.length_append, h.1, g.1]; omega, fun i d hd => by
  rcases Nat.lt_or_ge i ds.length with k | k
  · rw [List.getElem?_append_left k] at hd
    obtain ⟨a, c, b, e, h1, h2, h3, h4, h5⟩ := h.2 i d hd
    have hl := h.1
    exact ⟨a, c, b, e, by rw [List.getElem?_append_left (by omega)]; exact h1, by rw [List.getElem?_append_left (by omega)]; exact h2, by rw [List.getElem?_append_left (by omega)]; exact h3, h4, h5⟩
  · rw [List.getElem?_append_right k] at hd
    obtain ⟨a, c, b, e, h1, h2, h3, h4, h5⟩ := g.2 _ d hd
    have hl := h.1
    have e0 : (i - ds.length) * 3 = i * 3 - ds.length * 3 := Nat.sub_mul _ _ _
    exact ⟨a, c, b, e, by rw [List.getElem?_append_right (by omega), show i * 3 - vs.length = (i - ds.length) * 3 by omega]; exact h1, by rw [List.getElem?_append_right (by omega), show i * 3 + 1 - vs.length = (i - ds.length) * 3 + 1 by omega]; exact h2, by rw [List.getElem?_append_right (by omega), show i * 3 + 2 - vs.length = (i - ds.length) * 3 + 2 by omega]; exact h3, h4, h5⟩⟩
theorem CellsOf.one {w : World} {B0 : Nat} {a b : Option Addr} {c e : Nat} {S M : List Int} {L : Int} (h1 : TI w B0 a S) (h2 : TI w B0 b M) : CellsOf w B0 [.slice a S.length c, .slice b M.length e, .int .i64 L] [(S, M, L)] := ⟨rfl, fun i d hd => by
  cases i with
  | zero => cases hd; exact ⟨a, c, b, e, rfl, rfl, rfl, h1, h2⟩
  | succ i => simp at hd⟩
/-- A list of diagrams of the call's own. -/
def DLO (w : World) (B B0 : Nat) (A : Option Addr) (C : Nat) (ds : List Dgm) : Prop := ∃ vs, Own w B 24 A (C * 3) vs ∧ ds.length ≤ C ∧ CellsOf w B0 vs ds
theorem DLO.mono {w : World} {B B' B0 : Nat} {A : Option Addr} {C : Nat} {ds : List Dgm} (h : DLO w B B0 A C ds) (hB : B' ≤ B) : DLO w B' B0 A C ds := by
  obtain ⟨vs, h1, h2, h3⟩ := h
  exact ⟨vs, h1.mono hB, h2, h3⟩
theorem DLO.later {w w' : World} {B B0 : Nat} {A : Option Addr} {C : Nat} {ds : List Dgm} (h : DLO w B B0 A C ds) (hb : Below w.heap.size w w') : DLO w' B B0 A C ds := by
  obtain ⟨vs, h1, h2, h3⟩ := h
  exact ⟨vs, h1.later hb (Nat.le_refl _), h2, h3.later hb⟩
/-- One diagram of it. -/
theorem DLO.open {w : World} {B B0 : Nat} {A : Option Addr} {C : Nat} {ds : List Dgm} (h : DLO w B B0 A C ds) (h0 : 0 < ds.length) : ∃ b off, A = some ⟨b, off, none⟩ ∧ ∀ (i : Nat) (d : Dgm), ds[i]? = some d → ∃ a c b' e, w.cell? ⟨b, off + i * 3, none⟩ = some (.slice a d.1.length c) ∧ w.cell? ⟨b, off + i * 3 + 1, none⟩ = some (.slice b' d.2.1.length e) ∧ w.cell? ⟨b, off + i * 3 + 2, none⟩ = some (.int .i64 d.2.2) ∧ TI w B0 a d.1 ∧ TI w B0 b' d.2.1 := by
  obtain ⟨vs, h1, h2, h3, h4⟩ := h
  obtain ⟨b, off, rfl, _, _, hc, _⟩ := h1.open (by omega)
  refine ⟨b, off, rfl, fun i d hd => ?_⟩
  obtain ⟨a, c, b', e, g1, g2, g3, g4, g5⟩ := h4 i d hd
  exact ⟨a, c, b', e, hc _ _ g1, by rw [Nat.add_assoc]; exact hc _ _ g2, by rw [Nat.add_assoc]; exact hc _ _ g3, g4, g5⟩
section
variable {P : Program} {ops : Array Oper} {Q : Exit → Act → World → Prop} {o : Oper} {rest : List Oper} {a : Act} {w : World}
/-- Append of elements of k cells. -/
theorem wpList_append_wide (hg : o.guard = none) (s x : Operand) (t tx : TypeId) (hop : o.op = .call { callee := .builtin .append, args := #[s, x], argTypes := #[t, tx] })
    (B : Nat) (E : TypeId) (i : TypeInfo) (z : Value) (bytes k : Nat) (h1 : P.underlying t = some (.slice E)) (h1x : P.underlying tx = some (.slice E)) (h2 : P.info? E = some i) (h3 : i.zero = some z) (h4 : i.size = k) (hk : 0 < k) (h5 : i.bytes = bytes) (hz : z.cells.size = k)
    (A : Option Addr) (n c : Nat) (vs : List Value) (hs : a.eval s = .slice A n c) (hn : vs.length = n * k) (hnc : n ≤ c) (hown : Own w B E A (c * k) vs) (ax : Option Addr) (m cx : Nat) (us : List Value) (hx : a.eval x = .slice ax m cx) (hm : us.length = m * k) (hus : VAt w ax us) (hu1 : ∀ u ∈ us, u.oneCell' = true)
    (hbytes : (n + m) * bytes ≤ 140737488355328) (h63 : n + m ≤ 9223372036854775807) (hB : B ≤ w.heap.size)
    (hK : ∀ A' c' w', n + m ≤ c' → Own w' B E A' (c' * k) (vs ++ us) → Turned w w' A → (∀ x, A' = some x → (w.heap.size ≤ x.block ∨ ∃ y, A = some y ∧ x = y)) → wpList P ops Q rest (a.put o.dst (.slice A' (n + m) c')) w') :
    wpList P ops Q (o :: rest) a w := by
  refine wpList_plain hg fun K hK' => ?_
  obtain ⟨a', c', w', hrun, r0, r1, r2, r3⟩ := run_append_wide (P := P) w B t tx o.type E i z bytes k h1 h1x h2 h3 h4 hk h5 hz A n c vs hn hnc hown ax m cx us hm hus hu1 hbytes h63 hB
  unfold Oper.wp
  simp [execOp, hop, resolve, invoke, builtin, hs, hx, hrun, Result.andThen]
  exact hK' _ _ (hK a' c' w' r0 r1 r2 r3)
end
theorem Tryz.info24 : (Tryz.prog.info? 24).map (fun i => (i.zero, i.size, i.bytes)) = some (some (.agg #[.slice none 0 0, .slice none 0 0, .int .i64 0]), 3, 56) := by kernel_rfl
theorem Tryz.info41 : (Tryz.prog.info? 41).map (fun i => (i.zero, i.size, i.bytes)) = some (some (.agg #[.int .i64 0, .int .i64 0]), 2, 16) := by kernel_rfl
end Go.Proofs.YtmjoijfafachhaaGreatDoor


