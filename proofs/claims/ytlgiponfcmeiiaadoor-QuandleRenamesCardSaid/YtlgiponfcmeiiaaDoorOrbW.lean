/- The walk of quandle.Orbits of a quandle. -/
import Derived.Test.YtlgiponfcmeiiaaDoorCollW
import Derived.Test.YtlgiponfcmeiiaaDoorRAffW
namespace Go.Proofs.YtlgiponfcmeiiaaDoor
open Go Go.RowKit
/-- The slices ms hold the rows T. -/
def Rws (ms : List SlO) (T : List (List Int)) : Prop := ms.length = T.length ∧ ∀ (m : Nat) (d : SlO), ms[m]? = some d → d.E = 3 ∧ d.vs = ints (T.getD m [])
theorem Rws.nil : Rws [] [] := ⟨rfl, fun m d h => by simp at h⟩
theorem Rws.snoc {ms : List SlO} {T : List (List Int)} (h : Rws ms T) (a : Option Addr) (c : Nat) (row : List Int) : Rws (ms ++ [⟨a, c, 3, ints row⟩]) (T ++ [row]) := by
  refine ⟨by rw [List.length_append, List.length_append, h.1]; rfl, snoc_all (P := fun (m : Nat) (d : SlO) => d.E = 3 ∧ d.vs = ints ((T ++ [row]).getD m [])) (fun m d hd => ?_) ⟨rfl, ?_⟩⟩
  · have hm : m < T.length := by rw [← h.1]; exact (List.getElem?_eq_some_iff.1 hd).1
    obtain ⟨h1, h2⟩ := h.2 m d hd
    refine ⟨h1, ?_⟩
    rw [h2, List.getD_eq_getElem?_getD, List.getD_eq_getElem?_getD, List.getElem?_append_left hm]
  · rw [h.1, List.getD_eq_getElem?_getD]; simp
theorem bth_rep (n v : Nat) : bth (List.replicate n false) v ≠ true := by
  unfold bth; rw [List.getD_eq_getElem?_getD, List.getElem?_replicate]; split <;> simp
theorem HH.forgetK {w0 w : World} {l l' : Kn} {s : List SlO} (h : HH w0 w l s) (hs : l'.Sublist l) : HH w0 w l' s :=
  ⟨h.below, fun x hx => h.blk x (hs.subset hx), h.own, h.nd1.sublist hs, h.nd2, fun x hx => h.nd3 x (hs.subset hx)⟩
theorem Rws.tab {w0 w : World} {l : Kn} {ms : List SlO} {T : List (List Int)} {A : Option Addr} {E : Nat} (h : Rws ms T) (hh : HH w0 w l (⟨A, E, 36, ms.map slV⟩ :: ms)) : TabAt w A T :=
  (rowsAt_of (hh.forget (List.sublist_cons_self _ _)) h.1 h.2).tab (hh.sl (k := 0) rfl).at
theorem Rws.owned {w0 w : World} {l : Kn} {ms : List SlO} {T : List (List Int)} {A : Option Addr} {E : Nat} (h : Rws ms T) (hh : HH w0 w l (⟨A, E, 36, ms.map slV⟩ :: ms)) : OwnRows w w0.heap.size A E T := by
  refine ⟨ms.map slV, hh.own _ List.mem_cons_self, by rw [List.length_map]; exact h.1, fun i v row h1 h3 => ?_⟩
  have hi := (List.getElem?_eq_some_iff.1 h3).1
  have hil : i < ms.length := by rw [h.1]; exact hi
  have hd := List.getElem?_eq_getElem (l := ms) (i := i) hil
  rw [List.getElem?_map, hd] at h1
  obtain ⟨e1, e2⟩ := h.2 i _ hd
  have ho := hh.own _ (List.mem_cons_of_mem _ (List.mem_of_getElem? hd))
  rw [List.getD_eq_getElem?_getD, h3] at e2
  have e2 : ms[i].vs = ints row := e2
  have hv : slV ms[i] = v := Option.some.inj h1
  rw [e1, e2] at ho
  refine ⟨_, _, ?_, ho⟩
  rw [← hv]
  unfold slV
  rw [e2, ints_length]
theorem OwnRows.keptB {w w' : World} {B : Nat} {a : Option Addr} {c : Nat} {xss : List (List Int)} (h : OwnRows w B a c xss) (hk : ∀ b, B ≤ b → w'.heap[b]? = w.heap[b]?) : OwnRows w' B a c xss := by
  obtain ⟨vs, h1, h2, h3⟩ := h
  refine ⟨vs, h1.kept fun x hx => hk _ (h1.lt hx).1, h2, fun i v xs hv hx => ?_⟩
  obtain ⟨a', c', e, ho⟩ := h3 i v xs hv hx
  exact ⟨a', c', e, ho.kept fun x hx => hk _ (ho.lt hx).1⟩
set_option maxRecDepth 100000 in
set_option maxHeartbeats 4000000 in
theorem orb_new (T : List (List Int)) (n : Nat) (a : Option Addr) (c : Nat) (w : World) (hn : T.length = n) (hT : TabAt w a T) (hq : Qnd T) :
    Calls Tryd.prog 20 #[.agg #[.slice a n c]] w fun e w' => ∃ A E, e = .returned (.slice A (orbT (tbn T) n).length E) ∧ OwnRows w' w.heap.size A E (orbT (tbn T) n) ∧ Below w.heap.size w w' := by
  obtain ⟨W, hW⟩ : ∃ W, W = w.alloc (.cells #[.slice a n c] 25) := ⟨_, rfl⟩
  have h0 : HH w W [(w.heap.size, rowO 25 [.slice a n c])] [] := by rw [hW]; exact (HH.start w).alloc #[.slice a n c] 25 rfl rfl
  have H0 := Lib.hid h0
  clear h0
  have hsh := hq.2.1
  have hl := hq.1
  rw [hn] at hsh hl
  have h30 := hl.2
  have HC := Lib.hid (qvalid_any T a c W (by omega) hq.rows (hT.later H0.out.below))
  rw [okB_yes hq, hn] at HC
  have Hlt : Hid (∀ x y, x < n → y < n → tbn T x y < n) := Lib.hid fun x y hx hy => (tb_tbn hsh hx hy).2
  have Hiv : Hid (IvtN (tbn T) n) := Lib.hid ((ivt_iff hsh).1 (by rw [← hn]; exact hq.2.2.2.1))
  obtain ⟨b, o, P, Q, C, rfl, hG⟩ := grd_of hT hl.1 hsh
  have HG := Lib.hid hG
  generalize tbn T = f at *
  clear hT hq hsh hl hn hG
  obtain ⟨i0, hi0, hz0, hz1, hz2⟩ := info_parts Tryd.info36
  have hc0 := H0.out.cell (k := 0) (i := 0) rfl rfl
  go_enter Tryd.func20, Tryd.ntmps20
  rw [hW] at hc0
  go_wp2_with fail
  rw [← hW]
  clear hW hc0
  refine HC.out.mono ?_
  rintro e w1 ⟨rfl, hb⟩
  have H1 := Lib.hid (H0.out.call hb)
  clear hb H0 HC
  have H2 := Lib.hid (H1.out.alloc #[.bool false, .bool false, .bool false, .bool false, .bool false, .bool false, .bool false, .bool false, .bool false, .bool false, .bool false, .bool false, .bool false, .bool false, .bool false, .bool false, .bool false, .bool false, .bool false, .bool false, .bool false, .bool false, .bool false, .bool false, .bool false, .bool false, .bool false, .bool false, .bool false, .bool false] 49 rfl (vs := bools (List.replicate 30 false)) rfl)
  obtain ⟨v2, hv2⟩ : ∃ x, x = w1.alloc (.cells #[.bool false, .bool false, .bool false, .bool false, .bool false, .bool false, .bool false, .bool false, .bool false, .bool false, .bool false, .bool false, .bool false, .bool false, .bool false, .bool false, .bool false, .bool false, .bool false, .bool false, .bool false, .bool false, .bool false, .bool false, .bool false, .bool false, .bool false, .bool false, .bool false, .bool false] 49) := ⟨_, rfl⟩
  have hc0 := H2.out.cell (k := 0) (i := 0) rfl rfl
  go_wp2_with fail
  rw [← hv2]
  rw [← hv2] at H2 hc0
  generalize w1.heap.size = sq at *
  clear hv2 hc0 H1
  go_loopg [14, 3] n (fun g v s3 wr => ∃ (k : Nat) (S : List Bool) (A : Option Addr) (E : Nat) (ms : List SlO), k ≤ n ∧ g = n - k ∧ v = .int .i64 k ∧ s3 = .slice A ms.length E ∧ S.length = 30 ∧ Sch f n k S ∧ Rws ms (orbK f n k) ∧ HH w wr [(w.heap.size, rowO 25 [.slice (some ⟨b, o, none⟩) n c]), (sq, rowO 49 (bools S))] (⟨A, E, 36, ms.map slV⟩ :: ms))
  case atStart => exact ⟨0, List.replicate 30 false, none, 0, [], Nat.zero_le _, rfl, rfl, rfl, rfl, fun v _ => ⟨fun h => absurd h (bth_rep 30 v), fun ⟨u, hu, _⟩ => absurd hu (Nat.not_lt_zero u)⟩, Rws.nil, H2.out.addNil 36⟩
  case round =>
    obtain ⟨k, S, A, E, ms, hk, rfl, rfl, rfl, hSl, hSc, hRw, hh⟩ := hrel
    have HSl := Lib.hid hSl
    have HSc := Lib.hid hSc
    have HRw := Lib.hid hRw
    have Hh := Lib.hid hh
    clear hSl hSc hRw hh H2
    by_cases hkn : k < n
    · have hk30 : k < 30 := by omega
      have hcl := Hh.out.bool (k := 1) rfl k (by rw [HSl.out]; exact hk30)
      by_cases hs : bth S k = true
      · have HN := Lib.hid (sch_skip HSc.out hkn hs)
        rw [hs] at hcl
        clear hs
        go_wp2_with fail
        go_roundg (n - (k + 1))
        case measure => omega
        case rel => exact ⟨k + 1, S, A, E, ms, by omega, rfl, by go_num, rfl, HSl.out, HN.out.1, by rw [orbK_no HN.out.2]; exact HRw.out, Hh.out⟩
      · have Hns := Lib.hid hs
        rw [Bool.eq_false_iff.2 hs] at hcl
        clear hs
        have hst : ∀ (W : World) (ad : Addr) (fn : Fn) (f0 c0 : Array Value), (store ad (.func fn f0 c0) .plain).run Tryd.prog W = stored Tryd.prog W ad (.func fn f0 c0) .plain := fun W ad _ _ _ => run_store _ W ad _ _ rfl
        have H3 := Lib.hid ((Hh.out.alloc #[.slice none 0 0] 36 rfl rfl).alloc #[.nilFunc] 50 (b := wr.heap.size + 1) (by simp) rfl)
        have hcp := H3.out.cell (k := 3) (i := 0) rfl rfl
        have hfp := H3.out.frozen (k := 3) rfl 0
        have H4 : Hid (HH w ((wr.alloc (.cells #[.slice none 0 0] 36)).alloc (.cells #[.func (.func 29) #[] #[.pointer (some ⟨sq, 0, none⟩), .pointer (some ⟨wr.heap.size, 0, none⟩), .pointer (some ⟨w.heap.size, 0, none⟩), .pointer (some ⟨wr.heap.size + 1, 0, none⟩)]] 50)) (knC b o n c w.heap.size sq wr.heap.size (wr.heap.size + 1) S none ([] : List Nat).length 0) ((⟨A, E, 36, ms.map slV⟩ :: ms) ++ [⟨none, 0, 3, ints (natI [])⟩])) :=
          Lib.hid (((Hh.out.alloc #[.slice none 0 0] 36 rfl rfl).alloc #[fnV w.heap.size sq wr.heap.size (wr.heap.size + 1)] 50 (b := wr.heap.size + 1) (by simp) rfl).addNil 3)
        have hcq : ((wr.alloc (.cells #[.slice none 0 0] 36)).alloc (.cells #[.func (.func 29) #[] #[.pointer (some ⟨sq, 0, none⟩), .pointer (some ⟨wr.heap.size, 0, none⟩), .pointer (some ⟨w.heap.size, 0, none⟩), .pointer (some ⟨wr.heap.size + 1, 0, none⟩)]] 50)).cell? ⟨wr.heap.size + 1, 0, none⟩ = some (.func (.func 29) #[] #[.pointer (some ⟨sq, 0, none⟩), .pointer (some ⟨wr.heap.size, 0, none⟩), .pointer (some ⟨w.heap.size, 0, none⟩), .pointer (some ⟨wr.heap.size + 1, 0, none⟩)]) := H4.out.cell (k := 3) (i := 0) rfl rfl
        go_wp2_with fail
        generalize (wr.alloc (.cells #[.slice none 0 0] 36)).alloc (.cells #[.func (.func 29) #[] #[.pointer (some ⟨sq, 0, none⟩), .pointer (some ⟨wr.heap.size, 0, none⟩), .pointer (some ⟨w.heap.size, 0, none⟩), .pointer (some ⟨wr.heap.size + 1, 0, none⟩)]] 50) = v4 at *
        generalize wr.heap.size + 1 = p4 at *
        generalize wr.heap.size = ob at *
        clear hst hcp hfp hcq H3 hcl
        refine (coll_any w b o P Q C n f c w.heap.size sq ob p4 _ h30 HG.out n k S [] none 0 v4 hkn HSl.out (fuel_start S n) ⟨List.nodup_nil, fun v h => by simp at h⟩ H4.out).mono ?_
        rintro e w5 ⟨rfl, S', N, A', E', hl5, hp5, hh5⟩
        have HS5 := Lib.hid hl5
        have Htk := Lib.hid (sch_take Hlt.out Hiv.out HSc.out hkn Hns.out hp5)
        have hNl : N.length ≤ n := nodup_len hp5.2.1 fun v hv => (hp5.2.2.1 v hv).1
        have H5 := Lib.hid hh5
        clear hl5 hp5 hh5 H4
        have hc5 : w5.cell? ⟨ob, 0, none⟩ = some (.slice A' N.length E') := H5.out.cell (k := 2) (i := 0) rfl rfl
        have Hso := Lib.hid (sort_own (natI N) A' E' w.heap.size w5 (H5.out.sl (nthO_last (⟨A, E, 36, ms.map slV⟩ :: ms) _)) (by rw [List.length_map]; omega))
        rw [List.length_map] at Hso
        go_wp2_with fail
        refine Hso.out.mono ?_
        rintro e w6 ⟨rfl, hO6, hT6⟩
        have H6 := Lib.hid (H5.out.turnSl (nthO_last (⟨A, E, 36, ms.map slV⟩ :: ms) _) hO6 hT6)
        have h66 := H6.out
        rw [setO_last, show srt (natI N) = cls f n k from Htk.out.2.2] at h66
        have H7 := Lib.hid h66
        have hNc : N.length = (cls f n k).length := by rw [← show srt (natI N) = cls f n k from Htk.out.2.2, srt_len, List.length_map]
        rw [hNc] at hNl
        clear hO6 hT6 H6 h66 H5 hc5 Hso
        have hc6 : w6.cell? ⟨ob, 0, none⟩ = some (.slice A' N.length E') := H7.out.cell (k := 2) (i := 0) rfl rfl
        rw [hNc] at hc6
        have Hk1 := Lib.hid (orbK_yes Htk.out.2.1)
        have hml : ms.length ≤ n := by rw [HRw.out.1]; exact Nat.le_trans (orbK_len f n k) hk
        have Hmn : Hid ((ms.map slV).length = ms.length) := Lib.hid (by rw [List.length_map])
        have Ha0 := Lib.hid (H7.out.call ((Below.refl _ _).alloc (Nat.le_refl _) (.cells #[.slice A' (cls f n k).length E'] 36)))
        have Hc0 : Hid ((w6.alloc (.cells #[.slice A' (cls f n k).length E'] 36)).cell? ⟨w6.heap.size, 0, none⟩ = some (.slice A' (cls f n k).length E')) := Lib.hid ((Row.new w6 #[.slice A' (cls f n k).length E'] 36).cell 0)
        have Hl1 : Hid (w.heap.size ≤ (w6.alloc (.cells #[.slice A' (cls f n k).length E'] 36)).heap.size) := Lib.hid Ha0.out.below.size
        clear H7
        go_wp2_with (with_reducible refine wpList_append_one rfl (.tmp 26) (.tmp 28) 23 rfl w.heap.size 36 i0 (.slice none 0 0) 24 Tryd.underlying23 hi0 hz0 hz1 hz2 rfl A ms.length E (ms.map slV) rfl Hmn.out (Ha0.out.sl (k := 0) rfl) _ 1 (.slice A' (cls f n k).length E') rfl Hc0.out rfl (by omega) (by omega) Hl1.out ?_; intro A3 e3 w7 hO2 hT2 hA2; have H8 := Lib.hid (Ha0.out.grow (k := 0) rfl hO2 hT2 hA2); clear hO2 hT2 hA2)
        go_roundg (n - (k + 1))
        case measure => omega
        case rel =>
          refine ⟨k + 1, S', A3, e3, ms ++ [⟨A', E', 3, ints (cls f n k)⟩], by omega, rfl, by go_num, by rw [List.length_append]; rfl, HS5.out, Htk.out.1, by rw [Hk1.out]; exact HRw.out.snoc A' E' _, ?_⟩
          have h := H8.out.forgetK (l' := [(w.heap.size, rowO 25 [.slice (some ⟨b, o, none⟩) n c]), (sq, rowO 49 (bools S'))]) (List.Sublist.cons_cons _ (List.Sublist.cons_cons _ (List.nil_sublist _)))
          have e2' : List.map slV [(⟨A', E', 3, ints (cls f n k)⟩ : SlO)] = [.slice A' (cls f n k).length E'] := by
            show [slV _] = _
            unfold slV
            rw [ints_length]
          rw [List.map_append, e2']
          exact h
    · obtain rfl : k = n := by omega
      have HF : Hid (OwnRows wr w.heap.size A E (orbT f k)) := Lib.hid (HRw.out.owned Hh.out)
      have Hml : Hid (ms.length = (orbT f k).length) := Lib.hid HRw.out.1
      go_wp2_with fail
      go_ret
      exact ⟨A, E, by rw [Hml.out]; rfl, HF.out, Hh.out.below⟩
theorem orb_yes (T : List (List Int)) (n : Nat) (a : Option Addr) (c : Nat) (w : World) (hn : T.length = n) (hT : TabAt w a T) (hq : Qnd T) :
    Calls Tryd.prog 20 #[.agg #[.slice a n c]] w fun e w' => ∃ A E, e = .returned (.slice A (orbT (tbn T) n).length E) ∧ TabAt w' A (orbT (tbn T) n) ∧ Below w.heap.size w w' := by
  refine (orb_new T n a c w hn hT hq).mono ?_
  rintro e w' ⟨A, E, rfl, ht, hb⟩
  exact ⟨A, E, rfl, ht.tab, hb⟩
end Go.Proofs.YtlgiponfcmeiiaaDoor
