/- The reference's Faces, IsCut, Cuts, Nugatory, Alternating. -/
import Derived.Test.YtmjoijfafachhaaFtsW
import Derived.Test.YtmjoijfafachhaaNugW
import Derived.Test.YtmjoijfafachhaaAltW
import Derived.Test.YtmjoijfafachhaaHeap
import Derived.Test.YtmjoijfafachhaaRefValidW
namespace Go.Proofs.Ytmjoijfafachhaa
open Go Go.RowKit
theorem cell_kept {w w' : World} {b : Nat} (h : w'.heap[b]? = w.heap[b]?) (i : Nat) : w'.cell? ⟨b, i, none⟩ = w.cell? ⟨b, i, none⟩ := by simp [World.cell?, h]
/-- Each half-edge with the least of its face. -/
def rfcTo (ls : List (List Nat)) (N : Nat) : Nat → List Int
  | 0 => List.replicate N 0
  | i + 1 => setAll (ls.getD i []) (((ls.getD i []).getD 0 0 : Nat) : Int) (rfcTo ls N i)
theorem rfcTo_len (ls : List (List Nat)) (N i : Nat) : (rfcTo ls N i).length = N := by
  induction i with
  | zero => simp [rfcTo]
  | succ i ih => show (setAll _ _ _).length = N; rw [setAll_len, ih]
theorem rfcTo_at {ls : List (List Nat)} {N x j : Nat} {v : Nat} (hx : x < N) (hj : x ∈ ls.getD j []) (hu : ∀ k, x ∈ ls.getD k [] → (ls.getD k []).getD 0 0 = v) : ∀ i, j < i → nth (rfcTo ls N i) x = (v : Int) := fun i => by
  induction i with
  | zero => intro h; omega
  | succ i ih =>
    intro h
    show nth (setAll (ls.getD i []) (((ls.getD i []).getD 0 0 : Nat) : Int) (rfcTo ls N i)) x = _
    rw [nth_setAll _ _ _ _ (by rw [rfcTo_len]; exact hx)]
    by_cases e : x ∈ ls.getD i []
    · rw [if_pos e, hu i e]
    · rw [if_neg e]
      refine ih ?_
      rcases Nat.lt_or_ge j i with g | g
      · exact g
      · have : j = i := by omega
        rw [this] at hj; exact absurd hj e
def rfcL (M : List Int) (n : Nat) : List Int := rfcTo (facesL M n) (4 * n) (facesL M n).length
theorem rfc_at {M : List Int} {n : Nat} (hm : Mates M n) {x : Nat} (hx : x < 4 * n) : nth (rfcL M n) x = (lf M n x : Int) := by
  have hl := hm.face_lt hx
  have hmem : lf M n x ∈ (List.range (4 * n)).filter fun h => leastB (fc M) (perOf (fc M) (4 * n)) h := by
    rw [List.mem_filter, List.mem_range]
    exact ⟨hl, (fl_least hm.inj hm.per hl).2 (fl_idem hm.inj hm.per hx)⟩
  obtain ⟨j, hj, he⟩ := List.getElem_of_mem hmem
  have hjl : j < (facesL M n).length := by rw [facesL_eq hm, List.length_map]; exact hj
  refine rfcTo_at hx (j := j) ?_ (fun k hk => ?_) _ hjl
  · rw [List.getD_eq_getElem?_getD, facesL_eq hm, List.getElem?_map, List.getElem?_eq_getElem hj, he]
    exact (mem_orb (hm.per _ hl)).2 (onOrb_symm hm.inj hx (fl_spec hm.per hx).1)
  · have hkl : k < (facesL M n).length := by
      rcases Nat.lt_or_ge k (facesL M n).length with g | g
      · exact g
      · rw [List.getD_eq_getElem?_getD, List.getElem?_eq_none g] at hk; cases hk
    obtain ⟨h, h1, h2, h3, _⟩ := facesL_row hm hkl
    rw [h3] at hk ⊢
    rw [orb_getD _ _ _ _ (hm.per h h1).1]
    have ho := (mem_orb (hm.per h h1)).1 hk
    have : lf M n x = lf M n h := fl_eq hm.inj hm.per h1 ho
    rw [this, h2]; rfl
theorem rfc_iff {M : List Int} {n : Nat} (hm : Mates M n) {x y : Nat} (hx : x < 4 * n) (hy : y < 4 * n) : nth (rfcL M n) x = nth (rfcL M n) y ↔ OnOrb (fc M) x y := by
  rw [rfc_at hm hx, rfc_at hm hy]
  constructor
  · intro e
    have e2 : lf M n x = lf M n y := by omega
    have a1 := (fl_spec hm.per hx).1
    have a2 := (fl_spec hm.per hy).1
    have e3 : fl (fc M) (perOf (fc M) (4 * n)) x = fl (fc M) (perOf (fc M) (4 * n)) y := e2
    rw [e3] at a1
    exact onOrb_trans a1 (onOrb_symm hm.inj hy a2)
  · intro ho
    have e2 : lf M n y = lf M n x := fl_eq hm.inj hm.per hx ho
    rw [e2]
theorem rfc_left {M : List Int} {n : Nat} (hm : Mates M n) {x y : Nat} (hx : x < 4 * n) (hy : y < 4 * n) : (nth (rfcL M n) x == nth (rfcL M n) y) = (nth (leftL M n) x == nth (leftL M n) y) := by
  rw [Bool.eq_iff_iff, beq_iff_eq, beq_iff_eq, rfc_iff hm hx hy]
  exact (left_iff hm hx hy).symm
set_option maxRecDepth 100000 in
set_option maxHeartbeats 2000000 in
theorem rfaces7_any (M : List Int) (n : Nat) (aM : Option Addr) (cM : Nat) (w : World) (hn : n ≤ 64) (hm : Mates M n) (hl : M.length = 4 * n) (hM : IntsAt w aM M) :
    Calls Try.prog 62 #[.slice aM M.length cM] w fun e w' => ∃ a c, e = .returned (.slice a (4 * n) c) ∧ Own w' w.heap.size 3 a c (ints (rfcL M n)) ∧ Below w.heap.size w w' := by
  have HF : Hid (∀ W', Below w.heap.size w W' → Calls Try.prog 51 #[.slice aM M.length cM] W' fun e w' => ∃ a c, e = .returned (.slice a (facesL M n).length c) ∧ Below W'.heap.size W' w' ∧ OwnRows w' W'.heap.size a c ((facesL M n).map nats)) := Lib.hid fun W' h => by
    have g := faces_any M n aM cM W' (by omega) hl hm.ok (hM.later h)
    have e : facesL M n = clTo (fb M (-1)) (perOf (fb M (-1)) (4 * n)) (fun _ => true) (4 * n) := by
      unfold facesL; exact cycs_eq hm.inj hm.per _ (fun _ _ => rfl)
    rw [e]; exact g
  have HE : Hid (∀ i j, i < (facesL M n).length → j < ((facesL M n).getD i []).length → ((facesL M n).getD i []).getD j 0 < M.length) := Lib.hid fun i j hi hj => by rw [hl]; exact facesL_ent hm hi hj
  have HSr : Hid (∀ i, i < (facesL M n).length → ((facesL M n).getD i []).length ≤ 1000 ∧ 0 < ((facesL M n).getD i []).length) := Lib.hid fun i hi => by
    have h1 := facesL_short hm hi
    obtain ⟨h, h2, _, h3, _⟩ := facesL_row hm hi
    refine ⟨by omega, ?_⟩
    rw [h3, orb_length]; exact (hm.per h h2).1
  have hfl := facesL_few hm
  have hml : M.length ≤ 256 := by omega
  have HL : Hid (rfcL M n = rfcTo (facesL M n) M.length (facesL M n).length) := Lib.hid (by rw [hl]; rfl)
  rw [HL.out, ← hl]
  have hmk := run_mk1 (T := 22) (z := .int .i64 0) (bytes := 8) Try.underlying22 Try.info3 rfl M.length M.length (Nat.le_refl _) (by omega) (by omega)
  clear hm hM HL
  generalize facesL M n = ls at *
  have H1 := Lib.hid ((HH.start w).alloc (Array.replicate M.length (.int .i64 0)) 3 rfl (vs := ints (rfcTo ls M.length 0)) (by rw [replicate_ints]; rfl))
  have hob : w.heap.size < (w.alloc (Obj.cells (Array.replicate M.length (Value.int IntKind.i64 0)) 3)).heap.size := H1.out.lt List.mem_cons_self
  have hfl2 : ls.length ≤ 256 := by omega
  clear hl hfl
  generalize M.length = N at *
  go_enter Try.func62, Try.ntmps62
  go_wp2_with fail
  obtain ⟨v1, hv1⟩ : ∃ v, v = (w.alloc (Obj.cells (Array.replicate N (Value.int IntKind.i64 0)) 3)) := ⟨_, rfl⟩
  rw [← hv1] at H1 hob ⊢
  clear hv1 hmk
  refine (HF.out v1 H1.out.below).mono ?_
  rintro e w2 ⟨A, E, rfl, hb, hr⟩
  have H2 := Lib.hid (H1.out.call hb)
  generalize v1.heap.size = q at *
  have HR : Hid (∀ i, i < ls.length → ∃ b1 o1 b2 o2 c', A = some ⟨b1, o1, none⟩ ∧ q ≤ b1 ∧ q ≤ b2 ∧ w2.cell? ⟨b1, o1 + i, none⟩ = some (.slice (some ⟨b2, o2, none⟩) (ls.getD i []).length c') ∧ ∀ j, j < (ls.getD i []).length → w2.cell? ⟨b2, o2 + j, none⟩ = some (.int .i64 (((ls.getD i []).getD j 0 : Nat) : Int))) := Lib.hid fun i hi => by
    obtain ⟨b1, o1, rfl, hq, _, hrow⟩ := hr.open (by rw [List.length_map]; omega)
    obtain ⟨a', c', hci, hro⟩ := hrow i (nats (ls.getD i [])) (by rw [List.getElem?_map, getD_some (d := []) hi]; rfl)
    rw [nats_length] at hci
    obtain ⟨b2, o2, rfl, hB, _, hcR, _⟩ := hro.open (by rw [ints_length, nats_length]; exact (HSr.out i hi).2)
    refine ⟨b1, o1, b2, o2, c', rfl, hq, hB, hci, fun j hj => ?_⟩
    have := hcR j _ (ints_get (nats (ls.getD i [])) j (by rw [nats_length]; exact hj))
    rwa [nth_nats _ _ hj] at this
  clear hb hr H1 HF
  go_wp2_with fail
  go_loopg [5] ls.length (fun g v wr => ∃ i : Nat, i ≤ ls.length ∧ g = ls.length - i ∧ v = .int .i64 i ∧ Hid (∀ k, q ≤ k → wr.heap[k]? = w2.heap[k]?) ∧ HH w wr [(w.heap.size, rowO 3 (ints (rfcTo ls N i)))] [])
  case atStart => exact ⟨0, Nat.zero_le _, rfl, rfl, Lib.hid fun _ _ => rfl, H2.out⟩
  case round =>
    obtain ⟨i, hi, rfl, rfl, Hk, hh⟩ := hrel
    have Hh := Lib.hid hh
    clear hh H2
    by_cases hil : i < ls.length
    · obtain ⟨b1, o1, b2, o2, c', rfl, hb1, hb2, hci, hcj⟩ := HR.out i hil
      rw [← cell_kept (Hk.out b1 hb1)] at hci
      obtain ⟨hli, hl0⟩ := HSr.out i hil
      have HEi : Hid (∀ j, j < (ls.getD i []).length → (ls.getD i []).getD j 0 < N) := Lib.hid fun j hj => HE.out i j hil hj
      have HN : Hid (rfcTo ls N (i + 1) = setAll (ls.getD i []) (((ls.getD i []).getD 0 0 : Nat) : Int) (rfcTo ls N i)) := Lib.hid rfl
      have Hlen : Hid ((rfcTo ls N i).length = N) := Lib.hid (rfcTo_len ls N i)
      have HCj := Lib.hid hcj
      have HCi : Hid (w2.cell? ⟨b1, o1 + i, none⟩ = some (.slice (some ⟨b2, o2, none⟩) (ls.getD i []).length c')) := Lib.hid (by rw [← cell_kept (Hk.out b1 hb1)]; exact hci)
      clear hcj
      generalize ls.getD i [] = row at *
      generalize rfcTo ls N i = F at *
      go_wp2_with fail
      clear hci
      go_loopg [6] row.length (fun g v wx => ∃ j : Nat, j ≤ row.length ∧ g = row.length - j ∧ v = .int .i64 j ∧ Hid (∀ k, q ≤ k → wx.heap[k]? = w2.heap[k]?) ∧ HH w wx [(w.heap.size, rowO 3 (ints (setAll (row.take j) ((row.getD 0 0 : Nat) : Int) F)))] [])
      case atStart => exact ⟨0, Nat.zero_le _, rfl, rfl, Lib.hid Hk.out, Hh.out⟩
      case round =>
        obtain ⟨j, hj, rfl, rfl, Hk2, hh⟩ := hrel
        replace Hh := Lib.hid hh
        clear hh
        have hci := HCi.out
        rw [← cell_kept (Hk2.out b1 hb1)] at hci
        by_cases hjl : j < row.length
        · have hcx := HCj.out j hjl
          have hc0 := HCj.out 0 hl0
          rw [← cell_kept (Hk2.out b2 hb2)] at hcx hc0
          rw [Nat.add_zero] at hc0
          have hvn := HEi.out j hjl
          have HN2 := Lib.hid (Hh.out.setInt (k := 0) rfl (row.getD j 0) ((row.getD 0 0 : Nat) : Int)).drew
          rw [← setAll_take hjl] at HN2
          generalize row.getD j 0 = v at *
          generalize hg0 : row.getD 0 0 = r0 at *
          clear hg0
          have e1 : decide ((v : Int) < 0) = false := decide_eq_false (by omega)
          have e2 : decide ((N : Int) ≤ (v : Int)) = false := decide_eq_false (by omega)
          have e3 : decide (N ≤ v) = false := decide_eq_false (by omega)
          have hcv := Hh.out.int (k := 0) rfl v (by rw [setAll_len, Hlen.out]; exact hvn)
          have hfv := Hh.out.frozen (k := 0) rfl v
          have HbK : Hid (∀ k, q ≤ k → (wr.setCell ⟨w.heap.size, v, none⟩ (.int .i64 (r0 : Int))).drew.heap[k]? = w2.heap[k]?) := Lib.hid fun k hk => (Below.heap_setCell wr ⟨w.heap.size, v, none⟩ _ k (fun e => by have e : k = w.heap.size := e; omega)).trans (Hk2.out k hk)
          go_wp2_with fail
          go_region
          all_goals
            clear hcx hc0 hci hcv hfv
            go_wp2_with fail
            go_roundg (row.length - (j + 1))
            case measure => omega
            case rel => exact ⟨j + 1, by omega, rfl, by go_num, Lib.hid HbK.out, HN2.out⟩
        · obtain rfl : j = row.length := by omega
          rw [setAll_all, ← HN.out] at Hh
          go_wp2_with fail
          go_roundg (ls.length - (i + 1))
          case measure => omega
          case rel => exact ⟨i + 1, by omega, rfl, by go_num, Lib.hid Hk2.out, Hh.out⟩
    · obtain rfl : i = ls.length := by omega
      have Hlen : Hid ((rfcTo ls N ls.length).length = N) := Lib.hid (rfcTo_len ls N _)
      go_wp2_with fail
      go_ret
      refine ⟨_, _, rfl, ?_, Hh.out.below⟩
      have h := (Hh.out.row (k := 0) rfl).own (B := w.heap.size) (Nat.le_refl _)
      rw [ints_length, Hlen.out] at h
      exact h
end Go.Proofs.Ytmjoijfafachhaa
