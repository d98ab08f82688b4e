/- The walk of linking.sum. -/
import Derived.Test.YtkopbcehfbmnmaaLinkW
namespace Go.Proofs.Ytkopbcehfbmnmaa
open Go Go.RowKit
/-- A function value that, in every world behind w, tells whether a crossing of u and o is kept. -/
def KeepFn (w : World) (F : FuncId) (cap : Array Value) (keep : Int → Int → Bool) : Prop :=
  ∀ (W : World) (u o : Int), Below w.heap.size w W → Calls Try.prog F (#[.int .i64 u, .int .i64 o] ++ cap) W fun e w' => e = .returned (.bool (keep u o)) ∧ Below W.heap.size W w'
theorem grownBy_of_below {w w' : World} (h : Below w.heap.size w w') (row : Option Nat) : w.grownBy w' row := ⟨h.os, h.tape, h.output, h.size, fun k hk _ => h.block k hk⟩
theorem grownBy_set {w w1 : World} (h : Below w.heap.size w w1) (b : Nat) (u : Value) (n : Nat) : w.grownBy ((w1.drewN n).setCell ⟨b, 0, none⟩ u) (some b) :=
  ⟨h.os, h.tape, h.output, by have := h.size; simpa using this, fun k hk hne => (Below.heap_setCell (w1.drewN n) ⟨b, 0, none⟩ u k (fun e => hne (by rw [e]))).trans (h.block k hk)⟩
theorem PMap.grown {w w' : World} {b n : Nat} {f : Nat → Int × Int} {r : Nat} (h : PMap w b n f) (hg : w.grownBy w' (some r)) (hne : b ≠ r) : PMap w' b n f :=
  h.keptT fun _ _ _ => hg.block b h.lt (by simpa using hne)
theorem Row.grown {w w' : World} {b r : Nat} {E : TypeId} {vs : List Value} (h : Row w b E vs) (hg : w.grownBy w' (some r)) (hne : b ≠ r) : Row w' b E vs :=
  h.kept (hg.block b h.lt (by simpa using hne))
set_option maxRecDepth 100000 in
set_option maxHeartbeats 2000000 in
theorem sum1_any (t' : Int) (S M : List Int) (L : Int) (aS aM : Option Addr) (cS cM : Nat) (w : World) (G : FuncId) (capG : Array Value) (keep : Int → Int → Bool) (bA bK bT bD bm : Nat) (f : Nat → Int × Int) (t : Int) (c : Nat)
    (hcG : ∀ args W, (callFunc G args).run Try.prog W = .ok (.enter G args) W) (hk : KeepFn w G capG keep) (hc : c < S.length) (hn : S.length ≤ 64) (hS : IntsAt w aS S) (hsg : ∀ c, -1 ≤ nth S c ∧ nth S c ≤ 1) (ht : -64 ≤ t ∧ t ≤ 64)
    (hA : Row w bA 78 [.map (some bm)]) (hK : Row w bK 77 [.func (.func G) #[] capG]) (hT : Row w bT 3 [.int .i64 t]) (hD : Row w bD 24 [.slice aS S.length cS, .slice aM M.length cM, .int .i64 L]) (hm : PMap w bm 65536 f) (ht' : (if keep (f c).1 (f c).2 = true then t + nth S c else t) = t') :
    Calls Try.prog 155 #[.int .i64 (c : Int), .pointer (some ⟨bA, 0, none⟩), .pointer (some ⟨bK, 0, none⟩), .pointer (some ⟨bT, 0, none⟩), .pointer (some ⟨bD, 0, none⟩)] w fun e w' =>
      e = .returned (.tuple #[]) ∧ w.grownBy w' (some bT) ∧ Row w' bT 3 [.int .i64 t'] := by
  have Ht := Lib.hid ht'
  clear ht'
  have hcA := hA.cell 0
  have hcK := hK.cell 0
  have hcT := hT.cell 0
  have hcD := hD.cell 0
  simp only [List.getElem?_cons_zero] at hcA hcK hcT hcD
  obtain ⟨pu, po, hpp⟩ : ∃ pu po, f c = (pu, po) := ⟨_, _, rfl⟩
  have Hpp := Lib.hid hpp
  have Hm := Lib.hid hm
  have HT := Lib.hid hT
  have HK := Lib.hid hK
  have HD := Lib.hid hD
  have Hk := Lib.hid hk
  have HS := Lib.hid hS
  have hzK := hK.lt
  have hzA := hA.lt
  have hzT := hT.lt
  have hzD := hD.lt
  have Hsg := Lib.hid (hsg c)
  have Hal : Hid (∀ o, (w.alloc o).cell? ⟨bK, 0, none⟩ = some (.func (.func G) #[] capG)) := Lib.hid fun o => by
    have h1 := (hK.alloc o).cell 0
    simpa using h1
  have hal := Hal.out
  clear hA hK hT hD hm hpp hk hS hsg
  go_enter Try.func155, Try.ntmps155
  go_wp2_with (first | (with_reducible refine wpList_lookup_pair rfl (.tmp 7) (.tmp 8) rfl _ _ c f _ rfl rfl rfl (by omega) Hm.out pu po Hpp.out ?_))
  refine (Hk.out _ pu po ((Below.refl _ _).alloc (Nat.le_refl _) _)).mono ?_
  rintro e w1 ⟨rfl, hb⟩
  have hb1 : Below w.heap.size w w1 := below_step ((Below.refl _ _).alloc (Nat.le_refl _) _) hb
  have HT1 := Lib.hid (HT.out.later hb1 hzT)
  have hcT := HT1.out.cell 0
  have hfT := HT1.out.frozen 0
  have hcD := (HD.out.later hb1 hzD).cell 0
  simp only [List.getElem?_cons_zero] at hcT hcD
  obtain ⟨b, off, rfl, hbl, hcS⟩ := (HS.out.later hb1).open (by omega)
  have hcc := hcS c hc
  have hzT1 := HT1.out.lt
  have Hb1 := Lib.hid hb1
  have Hs1 := Lib.hid (Hsg.out)
  generalize hx : nth S c = x at *
  have hx1 := Hs1.out.1
  have hx2 := Hs1.out.2
  clear hcS hb hcA hcK hal
  by_cases hkp : keep pu po = true
  · have Hfin : Hid (t' = t + x) := Lib.hid (by rw [← Ht.out, Hpp.out]; exact if_pos hkp)
    rw [hkp]
    clear hkp
    go_wp2_with fail
    go_region
    go_wp2_with fail
    refine bodyPost_end (results_none rfl _ _ _) rfl ?_
    rw [Hfin.out]
    exact ⟨rfl, grownBy_set Hb1.out bT _ 1, HT1.out.set 0 _⟩
  · have Hfin : Hid (t' = t) := Lib.hid (by rw [← Ht.out, Hpp.out]; exact if_neg hkp)
    have hkp2 : keep pu po = false := by simpa using hkp
    rw [hkp2]
    clear hkp hkp2
    go_wp2_with fail
    refine bodyPost_end (results_none rfl _ _ _) rfl ?_
    rw [Hfin.out]
    exact ⟨rfl, grownBy_of_below Hb1.out _, HT1.out⟩
set_option maxRecDepth 100000 in
set_option maxHeartbeats 2000000 in
theorem sum_any (S M : List Int) (L : Int) (aS aM : Option Addr) (cS cM : Nat) (w : World) (G : FuncId) (capG : Array Value) (keep : Int → Int → Bool)
    (hcG : ∀ args W, (callFunc G args).run Try.prog W = .ok (.enter G args) W) (hk : KeepFn w G capG keep) (hv : vldB S M L = true) (hS : IntsAt w aS S) (hM : IntsAt w aM M) :
    Calls Try.prog 96 #[.agg #[.slice aS S.length cS, .slice aM M.length cM, .int .i64 L], .func (.func G) #[] capG] w fun e w' => e = .returned (.int .i64 (sumTo S (ownF (strandsL S M L)) keep S.length)) ∧ Below w.heap.size w w' := by
  have hs := vldB_shape hv
  have hn := hs.few
  have Hsg : Hid (∀ c, -1 ≤ nth S c ∧ nth S c ≤ 1) := Lib.hid fun c => by
    rcases Nat.lt_or_ge c S.length with h | h
    · rcases hs.sign c h with h | h <;> omega
    · rw [nth_out _ _ h]; omega
  have HS := Lib.hid hS
  have HM := Lib.hid hM
  have Hv := Lib.hid hv
  have Hk := Lib.hid hk
  have HB2 : Hid (∀ o1 o2, Below w.heap.size w ((w.alloc o1).alloc o2)) := Lib.hid fun o1 o2 => ((Below.refl _ _).alloc (Nat.le_refl _) o1).alloc (by simp) o2
  have hD0 : Row ((w.alloc (.cells #[.slice aS S.length cS, .slice aM M.length cM, .int .i64 L] 24)).alloc (.cells #[.func (.func G) #[] capG] 77)) w.heap.size 24 [.slice aS S.length cS, .slice aM M.length cM, .int .i64 L] :=
    (Row.new w #[.slice aS S.length cS, .slice aM M.length cM, .int .i64 L] 24).alloc _
  have hK0 : Row ((w.alloc (.cells #[.slice aS S.length cS, .slice aM M.length cM, .int .i64 L] 24)).alloc (.cells #[.func (.func G) #[] capG] 77)) (w.heap.size + 1) 77 [.func (.func G) #[] capG] := by
    have := Row.new (w.alloc (.cells #[.slice aS S.length cS, .slice aM M.length cM, .int .i64 L] 24)) #[.func (.func G) #[] capG] 77
    simpa using this
  have HD0 := Lib.hid hD0
  have HK0 := Lib.hid hK0
  clear hs hv hS hM hk hD0 hK0
  go_enter Try.func96, Try.ntmps96
  go_wp2_with fail
  refine (strandsAt_any S M L aS aM cS cM _ Hv.out (HS.out.later (HB2.out _ _)) (HM.out.later (HB2.out _ _))).mono ?_
  rintro e w2 ⟨bm, rfl, hb, hbm, hpm⟩
  have hb2 := below_step (HB2.out _ _) hb
  have HD := Lib.hid (HD0.out.later hb (by simp; omega))
  have HK := Lib.hid (HK0.out.later hb (by simp))
  have Hpm := Lib.hid hpm
  have Hb2 := Lib.hid hb2
  have hsz := hb2.size
  have hzm := hpm.lt
  have hzm2 : w.heap.size + 2 ≤ bm := by simpa using hbm
  have hzK := HK.out.lt
  have hcD : ∀ o1 o2, ((w2.alloc o1).alloc o2).cell? ⟨w.heap.size, 0, none⟩ = some (.slice aS S.length cS) := fun o1 o2 => by
    have h1 := ((HD.out.alloc o1).alloc o2).cell 0
    simpa using h1
  generalize hf : ownF (strandsL S M L) = f at *
  have Hf := Lib.hid hf
  clear hf
  have HA0 : Hid (Row ((w2.alloc (.cells #[.map (some bm)] 78)).alloc (.cells #[.int .i64 0] 3)) w2.heap.size 78 [.map (some bm)]) := Lib.hid ((Row.new w2 #[.map (some bm)] 78).alloc _)
  have HT0 : Hid (Row ((w2.alloc (.cells #[.map (some bm)] 78)).alloc (.cells #[.int .i64 0] 3)) (w2.heap.size + 1) 3 [.int .i64 0]) := Lib.hid (by
    have h1 := Row.new (w2.alloc (.cells #[.map (some bm)] 78)) #[.int .i64 0] 3
    simpa using h1)
  clear hb hpm hb2 HB2 HD0 HK0 hbm
  go_wp2_with fail
  go_loopg [15] S.length (fun g i wr => ∃ k : Nat, k ≤ S.length ∧ g = S.length - k ∧ i = .int .i64 k ∧ Below w.heap.size w wr ∧ Row wr w.heap.size 24 [.slice aS S.length cS, .slice aM M.length cM, .int .i64 L] ∧ Row wr (w.heap.size + 1) 77 [.func (.func G) #[] capG] ∧ Row wr w2.heap.size 78 [.map (some bm)] ∧ Row wr (w2.heap.size + 1) 3 [.int .i64 (sumTo S f keep k)] ∧ PMap wr bm 65536 f)
  case atStart => exact ⟨0, Nat.zero_le _, rfl, rfl, (Hb2.out.alloc hsz _).alloc (by simp; omega) _, (HD.out.alloc _).alloc _, (HK.out.alloc _).alloc _, HA0.out, HT0.out, (Hpm.out.alloc _).alloc _⟩
  case round =>
    clear HA0 HT0 hcD HK HD Hpm
    obtain ⟨k, hk, rfl, rfl, hb, hD, hK, hA, hT, hpm⟩ := hrel
    have HD := Lib.hid hD
    have HK := Lib.hid hK
    have HA := Lib.hid hA
    have HT := Lib.hid hT
    have Hpm := Lib.hid hpm
    have hbd := sumTo_bd S f keep Hsg.out k
    have hcT := hT.cell 0
    simp only [List.getElem?_cons_zero] at hcT
    have hsz1 := hb.size
    by_cases hkn : k < S.length
    · have Hsum : Hid ((if keep (f k).1 (f k).2 = true then sumTo S f keep k + nth S k else sumTo S f keep k) = sumTo S f keep (k + 1)) := Lib.hid rfl
      have Hkp : Hid (KeepFn wr G capG keep) := Lib.hid fun W u o hW => Hk.out W u o (below_step hb hW)
      generalize hst : sumTo S f keep (k + 1) = t' at *
      have Hst := Lib.hid hst
      generalize sumTo S f keep k = t at *
      clear hD hK hA hT hpm hcT hst
      go_wp2_with fail
      refine (sum1_any t' S M L aS aM cS cM wr G capG keep w2.heap.size (w.heap.size + 1) (w2.heap.size + 1) w.heap.size bm f t k hcG Hkp.out hkn hn (HS.out.later hb) Hsg.out (by omega) HA.out HK.out HT.out HD.out Hpm.out Hsum.out).mono ?_
      rintro e w3 ⟨rfl, hg, hT3⟩
      have Hr : Hid (Below w.heap.size w w3 ∧ Row w3 w.heap.size 24 [.slice aS S.length cS, .slice aM M.length cM, .int .i64 L] ∧ Row w3 (w.heap.size + 1) 77 [.func (.func G) #[] capG] ∧ Row w3 w2.heap.size 78 [.map (some bm)] ∧ Row w3 (w2.heap.size + 1) 3 [.int .i64 t'] ∧ PMap w3 bm 65536 f) :=
        Lib.hid ⟨hb.grown hg hsz1 (fun j hj => by cases hj; omega), HD.out.grown hg (by omega), HK.out.grown hg (by omega), HA.out.grown hg (by omega), hT3, Hpm.out.grown hg (by omega)⟩
      clear hg hT3 HD HK HA HT Hpm
      go_wp2_with fail
      go_roundg (S.length - (k + 1))
      case measure => omega
      case rel =>
        rw [← Hst.out] at Hr
        exact ⟨k + 1, by omega, rfl, by go_num, Hr.out⟩
    · obtain rfl : k = S.length := by omega
      clear hD hK hA hT hpm
      go_wp2_with fail
      go_ret
      rw [Hf.out]
      exact ⟨rfl, hb⟩
end Go.Proofs.Ytkopbcehfbmnmaa
