/- The reference's Sum and Place. -/
import Derived.Test.YtmjoijfafachhaaRUniW
import Derived.Test.YtmjoijfafachhaaRefValidW
namespace Go.Proofs.Ytmjoijfafachhaa
open Go Go.RowKit
theorem HH.own_int {w0 w : World} {l : Kn} {s : List SlO} (h : HH w0 w l s) {k b o c : Nat} {V : List Int} (hk : nthO s k = some ⟨some ⟨b, o, none⟩, c, 3, ints V⟩) (i : Nat) (hi : i < V.length) : w.cell? ⟨b, o + i, none⟩ = some (.int .i64 (nth V i)) := by
  have ho : Own w w0.heap.size 3 (some ⟨b, o, none⟩) c (ints V) := h.sl hk
  obtain ⟨b', o', he, _, _, hh, _⟩ := ho.open (by rw [ints_length]; omega)
  cases he; exact hh i _ (ints_get V i hi)
theorem HH.own_frozen {w0 w : World} {l : Kn} {s : List SlO} (h : HH w0 w l s) {k b o c : Nat} {V : List Int} (hk : nthO s k = some ⟨some ⟨b, o, none⟩, c, 3, ints V⟩) (h0 : 0 < V.length) (i : Nat) : w.frozen? ⟨b, i, none⟩ = false := by
  have ho : Own w w0.heap.size 3 (some ⟨b, o, none⟩) c (ints V) := h.sl hk
  obtain ⟨b', o', he, _, _, _, hh⟩ := ho.open (by rw [ints_length]; omega)
  cases he; exact hh i
theorem HH.slInt {w0 w : World} {l : Kn} {s : List SlO} (h : HH w0 w l s) {k b o c : Nat} {V : List Int} (hk : nthO s k = some ⟨some ⟨b, o, none⟩, c, 3, ints V⟩) (i : Nat) (hi : i < V.length) (x : Int) : HH w0 (w.setCell ⟨b, o + i, none⟩ (.int .i64 x)) l (setO s k ⟨some ⟨b, o, none⟩, c, 3, ints (V.set i x)⟩) := by
  have := h.slSet hk i (by rw [ints_length]; exact hi) (.int .i64 x)
  rwa [ints_set] at this
set_option maxRecDepth 100000 in
set_option maxHeartbeats 1000000 in
theorem rsum_loop_a (Sa Ma : List Int) (La : Int) (aSa aMa : Option Addr) (cSa cMa : Nat) (Sb Mb : List Int) (Lb : Int) (aSb aMb : Option Addr) (cSb cMb : Nat) (x y : Int) (w : World) (hva : vldB Sa Ma La = true) (hvb : vldB Sb Mb Lb = true) (hx : x < 0) (hSa : IntsAt w aSa Sa) (hMa : IntsAt w aMa Ma) (hSb : IntsAt w aSb Sb) (hMb : IntsAt w aMb Mb) :
    Calls Try.prog 43 #[.agg #[.slice aSa Sa.length cSa, .slice aMa Ma.length cMa, .int .i64 La], .int .i64 x, .agg #[.slice aSb Sb.length cSb, .slice aMb Mb.length cMb, .int .i64 Lb], .int .i64 y] w fun e w' => ∃ a b c d, e = .returned (.agg #[.slice a (Sa.length + Sb.length) c, .slice b (Ma.length + Mb.length) d, .int .i64 (La + Lb - 1)]) ∧ Own w' w.heap.size 3 a c (ints (Sa ++ Sb)) ∧ Own w' w.heap.size 3 b d (ints (uniM Ma Mb)) ∧ Below w.heap.size w w' := by
  have hsa := vldB_shape hva
  have hsb := vldB_shape hvb
  have hla := hsa.lo
  have hlb := hsb.lo
  have hma := hsa.len
  have hmb := hsb.len
  have hlah := hsa.hi
  have hlbh := hsb.hi
  have hfa := hsa.few
  have hfb := hsb.few
  have HU : Hid (∀ W', Below w.heap.size w W' → Calls Try.prog 46 #[.agg #[.slice aSa Sa.length cSa, .slice aMa Ma.length cMa, .int .i64 La], .agg #[.slice aSb Sb.length cSb, .slice aMb Mb.length cMb, .int .i64 Lb]] W' fun e w' => ∃ a b c d, e = .returned (.agg #[.slice a (Sa.length + Sb.length) c, .slice b (Ma.length + Mb.length) d, .int .i64 (La + Lb)]) ∧ Own w' W'.heap.size 3 a c (ints (Sa ++ Sb)) ∧ Own w' W'.heap.size 3 b d (ints (uniM Ma Mb)) ∧ (∀ p q, a = some p → b = some q → p.block ≠ q.block) ∧ Below W'.heap.size W' w') := Lib.hid fun W' h => runion_yes Sa Ma La aSa aMa cSa cMa Sb Mb Lb aSb aMb cSb cMb W' hva hvb (hSa.later h) (hMa.later h) (hSb.later h) (hMb.later h)
  have hwL : wrap64 (La + Lb - 1) = La + Lb - 1 := wrap_mid (by omega) (by omega)
  have t1 : decide (x < 0) = true := decide_eq_true hx
  have H0 := Lib.hid ((((HH.start w).alloc #[.slice aSa Sa.length cSa, .slice aMa Ma.length cMa, .int .i64 La] 24 rfl rfl).alloc #[.slice aSb Sb.length cSb, .slice aMb Mb.length cMb, .int .i64 Lb] 24 (b := w.heap.size + 1) (by simp) rfl).alloc #[.slice none 0 0, .slice none 0 0, .int .i64 0] 24 (b := w.heap.size + 2) (by simp) rfl)
  clear hsa hsb hva hvb hSa hMa hSb hMb hma hmb hfa hfb hx
  generalize uniM Ma Mb = V at *
  generalize Sa ++ Sb = T at *
  generalize Sa.length = na at *
  generalize Sb.length = nb at *
  generalize Ma.length = ma at *
  generalize Mb.length = mb at *
  go_enter Try.func43, Try.ntmps43
  go_wp2_with fail
  refine (HU.out _ H0.out.below).mono ?_
  rintro e w1 ⟨a5, b5, c5, d5, rfl, ho1, ho2, hne, hb⟩
  have H1 := Lib.hid ((H0.out.addTwo hb ho1 ho2 hne).alloc #[.slice a5 (na + nb) c5, .slice b5 (ma + mb) d5, .int .i64 (La + Lb)] 24 rfl rfl)
  clear hb ho1 ho2 hne H0 HU
  generalize hq5 : w1.heap.size = q5 at *
  go_upto_region 2 with fail
  generalize (w1.alloc (Obj.cells #[Value.slice a5 (na + nb) c5, Value.slice b5 (ma + mb) d5, Value.int IntKind.i64 (La + Lb)] 24)) = W at *
  clear hq5
  have g0 := H1.out.cell (k := 3) (i := 0) rfl rfl
  have g1 := H1.out.cell (k := 3) (i := 1) rfl rfl
  have g2 := H1.out.cell (k := 3) (i := 2) rfl rfl
  have gf := H1.out.frozen (k := 3) rfl 2
  have Hs := Lib.hid (H1.out.set (k := 3) rfl 2 (.int .i64 (La + Lb - 1)))
  have e0 := Hs.out.cell (k := 3) (i := 0) rfl rfl
  have e1 := Hs.out.cell (k := 3) (i := 1) rfl rfl
  have e2 := Hs.out.cell (k := 3) (i := 2) rfl rfl
  have k20 := Hs.out.cell (k := 2) (i := 0) rfl rfl
  have k21 := Hs.out.cell (k := 2) (i := 1) rfl rfl
  have k22 := Hs.out.cell (k := 2) (i := 2) rfl rfl
  have f0 := Hs.out.frozen (k := 2) rfl 0
  have f1 := Hs.out.frozen (k := 2) rfl 1
  have f2 := Hs.out.frozen (k := 2) rfl 2
  have H9 := ((Hs.out.set (k := 2) rfl 0 (.slice a5 (na + nb) c5)).set (k := 2) rfl 1 (.slice b5 (ma + mb) d5)).set (k := 2) rfl 2 (.int .i64 (La + Lb - 1))
  have hF0 := H9.cell (k := 2) (i := 0) rfl rfl
  have hF1 := H9.cell (k := 2) (i := 1) rfl rfl
  have hF2 := H9.cell (k := 2) (i := 2) rfl rfl
  have Hfin := Lib.hid H9
  clear H9
  go_wp2_with fail
  refine bodyPost_ret (v := .agg #[.slice a5 (na + nb) c5, .slice b5 (ma + mb) d5, .int .i64 (La + Lb - 1)]) (by simp [results, Try.results43, go_sem, hF0, hF1, hF2]) rfl ?_
  exact ⟨_, _, _, _, rfl, Hfin.out.sl (k := 0) rfl, Hfin.out.sl (k := 1) rfl, Hfin.out.below⟩
set_option maxRecDepth 100000 in
set_option maxHeartbeats 1000000 in
theorem rsum_loop_b (Sa Ma : List Int) (La : Int) (aSa aMa : Option Addr) (cSa cMa : Nat) (Sb Mb : List Int) (Lb : Int) (aSb aMb : Option Addr) (cSb cMb : Nat) (x y : Int) (w : World) (hva : vldB Sa Ma La = true) (hvb : vldB Sb Mb Lb = true) (hx : 0 ≤ x) (hy : y < 0) (hSa : IntsAt w aSa Sa) (hMa : IntsAt w aMa Ma) (hSb : IntsAt w aSb Sb) (hMb : IntsAt w aMb Mb) :
    Calls Try.prog 43 #[.agg #[.slice aSa Sa.length cSa, .slice aMa Ma.length cMa, .int .i64 La], .int .i64 x, .agg #[.slice aSb Sb.length cSb, .slice aMb Mb.length cMb, .int .i64 Lb], .int .i64 y] w fun e w' => ∃ a b c d, e = .returned (.agg #[.slice a (Sa.length + Sb.length) c, .slice b (Ma.length + Mb.length) d, .int .i64 (La + Lb - 1)]) ∧ Own w' w.heap.size 3 a c (ints (Sa ++ Sb)) ∧ Own w' w.heap.size 3 b d (ints (uniM Ma Mb)) ∧ Below w.heap.size w w' := by
  have hsa := vldB_shape hva
  have hsb := vldB_shape hvb
  have hla := hsa.lo
  have hlb := hsb.lo
  have hma := hsa.len
  have hmb := hsb.len
  have hlah := hsa.hi
  have hlbh := hsb.hi
  have hfa := hsa.few
  have hfb := hsb.few
  have HU : Hid (∀ W', Below w.heap.size w W' → Calls Try.prog 46 #[.agg #[.slice aSa Sa.length cSa, .slice aMa Ma.length cMa, .int .i64 La], .agg #[.slice aSb Sb.length cSb, .slice aMb Mb.length cMb, .int .i64 Lb]] W' fun e w' => ∃ a b c d, e = .returned (.agg #[.slice a (Sa.length + Sb.length) c, .slice b (Ma.length + Mb.length) d, .int .i64 (La + Lb)]) ∧ Own w' W'.heap.size 3 a c (ints (Sa ++ Sb)) ∧ Own w' W'.heap.size 3 b d (ints (uniM Ma Mb)) ∧ (∀ p q, a = some p → b = some q → p.block ≠ q.block) ∧ Below W'.heap.size W' w') := Lib.hid fun W' h => runion_yes Sa Ma La aSa aMa cSa cMa Sb Mb Lb aSb aMb cSb cMb W' hva hvb (hSa.later h) (hMa.later h) (hSb.later h) (hMb.later h)
  have hwL : wrap64 (La + Lb - 1) = La + Lb - 1 := wrap_mid (by omega) (by omega)
  have t1 : decide (x < 0) = false := decide_eq_false (by omega)
  have t2 : decide (y < 0) = true := decide_eq_true hy
  have H0 := Lib.hid ((((HH.start w).alloc #[.slice aSa Sa.length cSa, .slice aMa Ma.length cMa, .int .i64 La] 24 rfl rfl).alloc #[.slice aSb Sb.length cSb, .slice aMb Mb.length cMb, .int .i64 Lb] 24 (b := w.heap.size + 1) (by simp) rfl).alloc #[.slice none 0 0, .slice none 0 0, .int .i64 0] 24 (b := w.heap.size + 2) (by simp) rfl)
  clear hsa hsb hva hvb hSa hMa hSb hMb hma hmb hfa hfb hx hy
  generalize uniM Ma Mb = V at *
  generalize Sa ++ Sb = T at *
  generalize Sa.length = na at *
  generalize Sb.length = nb at *
  generalize Ma.length = ma at *
  generalize Mb.length = mb at *
  go_enter Try.func43, Try.ntmps43
  go_wp2_with fail
  refine (HU.out _ H0.out.below).mono ?_
  rintro e w1 ⟨a5, b5, c5, d5, rfl, ho1, ho2, hne, hb⟩
  have H1 := Lib.hid ((H0.out.addTwo hb ho1 ho2 hne).alloc #[.slice a5 (na + nb) c5, .slice b5 (ma + mb) d5, .int .i64 (La + Lb)] 24 rfl rfl)
  clear hb ho1 ho2 hne H0 HU
  generalize hq5 : w1.heap.size = q5 at *
  go_upto_region 2 with fail
  generalize (w1.alloc (Obj.cells #[Value.slice a5 (na + nb) c5, Value.slice b5 (ma + mb) d5, Value.int IntKind.i64 (La + Lb)] 24)) = W at *
  clear hq5
  have g0 := H1.out.cell (k := 3) (i := 0) rfl rfl
  have g1 := H1.out.cell (k := 3) (i := 1) rfl rfl
  have g2 := H1.out.cell (k := 3) (i := 2) rfl rfl
  have gf := H1.out.frozen (k := 3) rfl 2
  have Hs := Lib.hid (H1.out.set (k := 3) rfl 2 (.int .i64 (La + Lb - 1)))
  have e0 := Hs.out.cell (k := 3) (i := 0) rfl rfl
  have e1 := Hs.out.cell (k := 3) (i := 1) rfl rfl
  have e2 := Hs.out.cell (k := 3) (i := 2) rfl rfl
  have k20 := Hs.out.cell (k := 2) (i := 0) rfl rfl
  have k21 := Hs.out.cell (k := 2) (i := 1) rfl rfl
  have k22 := Hs.out.cell (k := 2) (i := 2) rfl rfl
  have f0 := Hs.out.frozen (k := 2) rfl 0
  have f1 := Hs.out.frozen (k := 2) rfl 1
  have f2 := Hs.out.frozen (k := 2) rfl 2
  have H9 := ((Hs.out.set (k := 2) rfl 0 (.slice a5 (na + nb) c5)).set (k := 2) rfl 1 (.slice b5 (ma + mb) d5)).set (k := 2) rfl 2 (.int .i64 (La + Lb - 1))
  have hF0 := H9.cell (k := 2) (i := 0) rfl rfl
  have hF1 := H9.cell (k := 2) (i := 1) rfl rfl
  have hF2 := H9.cell (k := 2) (i := 2) rfl rfl
  have Hfin := Lib.hid H9
  clear H9
  go_wp2_with fail
  refine bodyPost_ret (v := .agg #[.slice a5 (na + nb) c5, .slice b5 (ma + mb) d5, .int .i64 (La + Lb - 1)]) (by simp [results, Try.results43, go_sem, hF0, hF1, hF2]) rfl ?_
  exact ⟨_, _, _, _, rfl, Hfin.out.sl (k := 0) rfl, Hfin.out.sl (k := 1) rfl, Hfin.out.below⟩
set_option maxRecDepth 100000 in
set_option maxHeartbeats 1000000 in
theorem rsum_yes (Sa Ma : List Int) (La : Int) (aSa aMa : Option Addr) (cSa cMa : Nat) (Sb Mb : List Int) (Lb : Int) (aSb aMb : Option Addr) (cSb cMb : Nat) (x y : Nat) (w : World) (hva : vldB Sa Ma La = true) (hvb : vldB Sb Mb Lb = true) (hn : Sa.length + Sb.length ≤ 64) (hx : x < 4 * Sa.length) (hy : y < 4 * Sb.length) (hSa : IntsAt w aSa Sa) (hMa : IntsAt w aMa Ma) (hSb : IntsAt w aSb Sb) (hMb : IntsAt w aMb Mb) :
    Calls Try.prog 43 #[.agg #[.slice aSa Sa.length cSa, .slice aMa Ma.length cMa, .int .i64 La], .int .i64 (x : Int), .agg #[.slice aSb Sb.length cSb, .slice aMb Mb.length cMb, .int .i64 Lb], .int .i64 (y : Int)] w fun e w' => ∃ a b c d, e = .returned (.agg #[.slice a (Sa.length + Sb.length) c, .slice b (Ma.length + Mb.length) d, .int .i64 (La + Lb)]) ∧ Own w' w.heap.size 3 a c (ints (Sa ++ Sb)) ∧ Own w' w.heap.size 3 b d (ints (crossL (uniM Ma Mb) x (Ma.length + y))) ∧ Below w.heap.size w w' := by
  have hsa := vldB_shape hva
  have hsb := vldB_shape hvb
  have hla := hsa.lo
  have hlb := hsb.lo
  have hma := hsa.len
  have hmb := hsb.len
  have hlah := hsa.hi
  have hlbh := hsb.hi
  have hfa := hsa.few
  have hfb := hsb.few
  have HU : Hid (∀ W', Below w.heap.size w W' → Calls Try.prog 46 #[.agg #[.slice aSa Sa.length cSa, .slice aMa Ma.length cMa, .int .i64 La], .agg #[.slice aSb Sb.length cSb, .slice aMb Mb.length cMb, .int .i64 Lb]] W' fun e w' => ∃ a b c d, e = .returned (.agg #[.slice a (Sa.length + Sb.length) c, .slice b (Ma.length + Mb.length) d, .int .i64 (La + Lb)]) ∧ Own w' W'.heap.size 3 a c (ints (Sa ++ Sb)) ∧ Own w' W'.heap.size 3 b d (ints (uniM Ma Mb)) ∧ (∀ p q, a = some p → b = some q → p.block ≠ q.block) ∧ Below W'.heap.size W' w') := Lib.hid fun W' h => runion_yes Sa Ma La aSa aMa cSa cMa Sb Mb Lb aSb aMb cSb cMb W' hva hvb (hSa.later h) (hMa.later h) (hSb.later h) (hMb.later h)
  have hur := uni_range hva hvb hn
  have hul : (uniM Ma Mb).length = Ma.length + Mb.length := uniM_len _ _
  have hrx := hur x (by omega)
  have hry := hur (Ma.length + y) (by omega)
  obtain ⟨p, hp⟩ : ∃ p : Nat, nth (uniM Ma Mb) x = (p : Int) := ⟨(nth (uniM Ma Mb) x).toNat, by omega⟩
  obtain ⟨q, hq⟩ : ∃ q : Nat, nth (uniM Ma Mb) (Ma.length + y) = (q : Int) := ⟨(nth (uniM Ma Mb) (Ma.length + y)).toNat, by omega⟩
  have HE : Hid (((((uniM Ma Mb).set x (q : Int)).set q (x : Int)).set (Ma.length + y) (p : Int)).set p (((Ma.length + y : Nat)) : Int) = crossL (uniM Ma Mb) x (Ma.length + y)) := Lib.hid (by
    unfold crossL
    rw [show mt (uniM Ma Mb) (Ma.length + y) = q by unfold mt; rw [hq]; exact Int.toNat_natCast q, show mt (uniM Ma Mb) x = p by unfold mt; rw [hp]; exact Int.toNat_natCast p, hp, hq])
  have hpl : p < Ma.length + Mb.length := by omega
  have hql : q < Ma.length + Mb.length := by omega
  have hxl : x < Ma.length + Mb.length := by omega
  have hyl : Ma.length + y < Ma.length + Mb.length := by omega
  have t1 : decide ((x : Int) < 0) = false := decide_eq_false (by omega)
  have t2 : decide ((y : Int) < 0) = false := decide_eq_false (by omega)
  obtain ⟨Y, hY⟩ : ∃ Y, Y = Ma.length + y := ⟨_, rfl⟩
  have w1 : IntKind.i64.wrap ((y : Int) + (Ma.length : Int)) = (Y : Int) := by rw [wrapi_mid (by omega) (by omega)]; omega
  have w2 : wrap64 ((y : Int) + (Ma.length : Int)) = (Y : Int) := by rw [wrap_mid (by omega) (by omega)]; omega
  have hx255 : x ≤ 255 := by omega
  have hN : Ma.length + Mb.length ≤ 512 := by omega
  have H0 := Lib.hid ((((HH.start w).alloc #[.slice aSa Sa.length cSa, .slice aMa Ma.length cMa, .int .i64 La] 24 rfl rfl).alloc #[.slice aSb Sb.length cSb, .slice aMb Mb.length cMb, .int .i64 Lb] 24 (b := w.heap.size + 1) (by simp) rfl).alloc #[.slice none 0 0, .slice none 0 0, .int .i64 0] 24 (b := w.heap.size + 2) (by simp) rfl)
  rw [← hY] at HE hq hyl ⊢
  clear hsa hsb hva hvb hSa hMa hSb hMb hfa hfb hx hy hur hrx hry hn hma hmb hY
  generalize crossL (uniM Ma Mb) x Y = U at *
  generalize uniM Ma Mb = V at *
  generalize Sa ++ Sb = T at *
  generalize Sa.length = na at *
  generalize Sb.length = nb at *
  generalize Ma.length = ma at *
  generalize Mb.length = mb at *
  obtain ⟨N, hNN⟩ : ∃ N, N = ma + mb := ⟨_, rfl⟩
  rw [← hNN] at hpl hql hxl hyl hul hN HU ⊢
  clear hNN
  go_enter Try.func43, Try.ntmps43
  go_wp2_with fail
  refine (HU.out _ H0.out.below).mono ?_
  rintro e w1 ⟨a5, b5, c5, d5, rfl, ho1, ho2, hne, hb⟩
  obtain ⟨bb, oo, rfl, _, _, _, _⟩ := ho2.open (by rw [ints_length]; omega)
  have H1 := Lib.hid ((H0.out.addTwo hb ho1 ho2 hne).alloc #[.slice a5 (na + nb) c5, .slice (some ⟨bb, oo, none⟩) N d5, .int .i64 (La + Lb)] 24 rfl rfl)
  clear hb ho1 ho2 hne H0 HU
  have hul0 : 0 < V.length := by omega
  generalize hq5 : w1.heap.size = q5 at *
  have k01 := H1.out.cell (k := 0) (i := 1) rfl rfl
  have k31 := H1.out.cell (k := 3) (i := 1) rfl rfl
  have H2 := Lib.hid H1.out.drew
  have v1 := H1.out.own_int (k := 1) rfl x (by omega)
  have v2 := H1.out.own_int (k := 1) rfl Y (by omega)
  rw [hp] at v1
  rw [hq] at v2
  have hxl2 : (x : Int) < (N : Int) := by omega
  have hyl2 : (Y : Int) < (N : Int) := by omega
  have hpl2 : (p : Int) < (N : Int) := by omega
  have hql2 : (q : Int) < (N : Int) := by omega
  go_upto_region 6 with fail
  generalize (w1.alloc (Obj.cells #[Value.slice a5 (na + nb) c5, Value.slice (some ⟨bb, oo, none⟩) N d5, Value.int IntKind.i64 (La + Lb)] 24)) = W at *
  go_region
  all_goals
    generalize W.drew = W2 at *
    clear k01 k31 v1 v2 H1
    have k31 := H2.out.cell (k := 3) (i := 1) rfl rfl
    have v1 := H2.out.own_int (k := 1) rfl x (by omega)
    have fr := H2.out.own_frozen (k := 1) rfl hul0
    have fr3 := fr (oo + q)
    have H4 := Lib.hid (H2.out.slInt (k := 1) rfl x (by omega) (q : Int))
    have v2 : ∃ u, (W2.setCell ⟨bb, oo + x, none⟩ (.int .i64 (q : Int))).cell? ⟨bb, oo + q, none⟩ = some u := ⟨_, H4.out.own_int (k := 1) rfl q (by rw [List.length_set]; omega)⟩
    obtain ⟨u2, v2⟩ := v2
    have fr2 := H4.out.own_frozen (k := 1) rfl (by rw [List.length_set]; omega) (oo + q)
    have fr1 := fr (oo + x)
    have H5 := Lib.hid (H4.out.slInt (k := 1) rfl q (by rw [List.length_set]; omega) (x : Int)).drew
    clear fr
    go_wp2_with fail
    go_region
    all_goals
      generalize ((W2.setCell ⟨bb, oo + x, none⟩ (.int .i64 (q : Int))).setCell ⟨bb, oo + q, none⟩ (.int .i64 (x : Int))).drew = W3 at *
      clear k31 v1 v2 fr1 fr2 fr3 H2 H4
      have k31 := H5.out.cell (k := 3) (i := 1) rfl rfl
      have v1 := H5.out.own_int (k := 1) rfl Y (by rw [List.length_set, List.length_set]; omega)
      have fr1 := H5.out.own_frozen (k := 1) rfl (by rw [List.length_set, List.length_set]; omega) (oo + Y)
      have fr3 := H5.out.own_frozen (k := 1) rfl (by rw [List.length_set, List.length_set]; omega) (oo + p)
      have H4 := Lib.hid (H5.out.slInt (k := 1) rfl Y (by rw [List.length_set, List.length_set]; omega) (p : Int))
      have v2 : ∃ u, (W3.setCell ⟨bb, oo + Y, none⟩ (.int .i64 (p : Int))).cell? ⟨bb, oo + p, none⟩ = some u := ⟨_, H4.out.own_int (k := 1) rfl p (by rw [List.length_set, List.length_set, List.length_set]; omega)⟩
      obtain ⟨u2, v2⟩ := v2
      have fr2 := H4.out.own_frozen (k := 1) rfl (by rw [List.length_set, List.length_set, List.length_set]; omega) (oo + p)
      have H6 := Lib.hid (H4.out.slInt (k := 1) rfl p (by rw [List.length_set, List.length_set, List.length_set]; omega) (Y : Int)).drew
      rw [HE.out] at H6
      go_wp2_with fail
      go_region
      all_goals
        generalize ((W3.setCell ⟨bb, oo + Y, none⟩ (.int .i64 (p : Int))).setCell ⟨bb, oo + p, none⟩ (.int .i64 (Y : Int))).drew = W4 at *
        clear k31 v1 v2 fr1 fr2 fr3 H4 H5
        have k30 := H6.out.cell (k := 3) (i := 0) rfl rfl
        have k31 := H6.out.cell (k := 3) (i := 1) rfl rfl
        have k32 := H6.out.cell (k := 3) (i := 2) rfl rfl
        have k20 := H6.out.cell (k := 2) (i := 0) rfl rfl
        have k21 := H6.out.cell (k := 2) (i := 1) rfl rfl
        have k22 := H6.out.cell (k := 2) (i := 2) rfl rfl
        have f0 := H6.out.frozen (k := 2) rfl 0
        have f1 := H6.out.frozen (k := 2) rfl 1
        have f2 := H6.out.frozen (k := 2) rfl 2
        have H9 := ((H6.out.set (k := 2) rfl 0 (.slice a5 (na + nb) c5)).set (k := 2) rfl 1 (.slice (some ⟨bb, oo, none⟩) N d5)).set (k := 2) rfl 2 (.int .i64 (La + Lb))
        have hF0 := H9.cell (k := 2) (i := 0) rfl rfl
        have hF1 := H9.cell (k := 2) (i := 1) rfl rfl
        have hF2 := H9.cell (k := 2) (i := 2) rfl rfl
        have Hfin := Lib.hid H9
        clear H9
        go_wp2_with fail
        refine bodyPost_ret (v := .agg #[.slice a5 (na + nb) c5, .slice (some ⟨bb, oo, none⟩) N d5, .int .i64 (La + Lb)]) (by simp [results, Try.results43, go_sem, hF0, hF1, hF2]) rfl ?_
        exact ⟨_, _, _, _, rfl, Hfin.out.sl (k := 0) rfl, Hfin.out.sl (k := 1) rfl, Hfin.out.below⟩
set_option maxRecDepth 100000 in
set_option maxHeartbeats 1000000 in
theorem place_any (S M : List Int) (L : Int) (aS aM : Option Addr) (cS cM : Nat) (x : Int) (w : World) (hb : S.length ≤ 1000000) (hl : M.length = 4 * S.length) (hS : IntsAt w aS S) :
    Calls Try.prog 22 #[.agg #[.slice aS S.length cS, .slice aM M.length cM, .int .i64 L], .int .i64 x] w fun e w' => e = .returned (.bool (placeB S L x)) ∧ Below w.heap.size w w' := by
  have H0 := Lib.hid ((HH.start w).alloc #[.slice aS S.length cS, .slice aM M.length cM, .int .i64 L] 24 rfl rfl)
  have c0 := H0.out.cell (k := 0) (i := 0) rfl rfl
  have c1 := H0.out.cell (k := 0) (i := 1) rfl rfl
  have c2 := H0.out.cell (k := 0) (i := 2) rfl rfl
  by_cases e1 : x = -1
  · subst e1
    rw [placeB_loop]
    clear hl
    by_cases hL : 0 < L
    · have d1 : decide (0 < L) = true := decide_eq_true hL
      rw [d1]
      go_enter Try.func22, Try.ntmps22
      go_wp2_with fail
      go_ret
      exact ⟨rfl, H0.out.below⟩
    · have d1 : decide (0 < L) = false := decide_eq_false hL
      rw [d1]
      go_enter Try.func22, Try.ntmps22
      go_wp2_with fail
      go_ret
      exact ⟨rfl, H0.out.below⟩
  · have t1 : (x == -1) = false := by simpa using e1
    by_cases g : 0 ≤ x ∧ x < 4 * (S.length : Int)
    · obtain ⟨h, rfl⟩ : ∃ h : Nat, x = (h : Int) := ⟨x.toNat, by omega⟩
      have hh : h < 4 * S.length := by omega
      have HC := Lib.hid (rout_any S aS cS h (w.alloc (.cells #[.slice aS S.length cS, .slice aM M.length cM, .int .i64 L] 24)) hh hb (hS.later H0.out.below))
      rw [placeB_at hh]
      have d2 : (h : Int) < (M.length : Int) := by omega
      have d3 : decide ((h : Int) < (M.length : Int)) = true := decide_eq_true d2
      have d1 : decide ((h : Int) ≥ 0) = true := decide_eq_true (by omega)
      generalize outB S h = R at *
      clear hS g hh hl e1
      generalize M.length = m at *
      generalize S.length = n at *
      go_enter Try.func22, Try.ntmps22
      go_wp2_with fail
      refine HC.out.mono ?_
      rintro e w1 ⟨rfl, hw⟩
      subst hw
      go_wp2_with fail
      go_ret
      exact ⟨rfl, H0.out.below⟩
    · rw [placeB_out e1 g]
      by_cases h0 : 0 ≤ x
      · have d3 : decide (x < (M.length : Int)) = false := decide_eq_false (by omega)
        clear hS g hl e1
        generalize M.length = m at *
        go_enter Try.func22, Try.ntmps22
        go_wp2_with fail
        go_ret
        exact ⟨rfl, H0.out.below⟩
      · have d3 : decide (0 ≤ x) = false := decide_eq_false h0
        clear hS g hl e1
        go_enter Try.func22, Try.ntmps22
        go_wp2_with fail
        go_ret
        exact ⟨rfl, H0.out.below⟩
end Go.Proofs.Ytmjoijfafachhaa
