/- The law QuandleRenames: the rows of the made table, and the counts of the sizes. -/
import Derived.Test.YtlgiponfcmeiiaaDoorRnmW
import Derived.Test.YtlgiponfcmeiiaaDoorAutP
namespace Go.Proofs.YtlgiponfcmeiiaaDoor
open Go Go.RowKit
/-- The rows that the law makes: blocks and what they hold. -/
def rws (bl : List Nat) (n : Nat) (Z : Nat → List Int) (k : Nat) : List SlO := (List.range k).map fun m => ⟨some ⟨bl.getD m 0, 0, none⟩, n, 3, ints (Z m)⟩
theorem rws_len (bl : List Nat) (n : Nat) (Z : Nat → List Int) (k : Nat) : (rws bl n Z k).length = k := by simp [rws]
theorem nthO_get {α : Type} : ∀ (l : List α) (i : Nat), nthO l i = l[i]?
  | [], _ => rfl
  | _ :: _, 0 => rfl
  | _ :: l, i + 1 => by show nthO l i = _; rw [nthO_get l i]; rfl
theorem setO_set {α : Type} : ∀ (l : List α) (i : Nat) (y : α), setO l i y = l.set i y
  | [], _, _ => rfl
  | _ :: _, 0, _ => rfl
  | x :: l, i + 1, y => by show x :: setO l i y = _; rw [setO_set l i y]; rfl
theorem rws_nth {bl : List Nat} {n k : Nat} {Z : Nat → List Int} {m : Nat} (h : m < k) : nthO (rws bl n Z k) m = some ⟨some ⟨bl.getD m 0, 0, none⟩, n, 3, ints (Z m)⟩ := by
  rw [nthO_get]; simp [rws, h]
def upd (Z : Nat → List Int) (m : Nat) (xs : List Int) : Nat → List Int := fun i => if i = m then xs else Z i
theorem rws_set {bl : List Nat} {n k : Nat} {Z : Nat → List Int} {m : Nat} (xs : List Int) (h : m < k) : setO (rws bl n Z k) m ⟨some ⟨bl.getD m 0, 0, none⟩, n, 3, ints xs⟩ = rws bl n (upd Z m xs) k := by
  rw [setO_set]
  apply List.ext_getElem
  · simp [rws]
  · intro i h1 h2
    rw [List.getElem_set]
    simp only [rws, List.getElem_map, List.getElem_range, upd]
    by_cases e : m = i
    · subst e; simp
    · rw [if_neg e, if_neg (fun g => e g.symm)]
/-- The cells of the table. -/
def rwV (bl : List Nat) (n k : Nat) : List Value := (List.range k).map fun m => .slice (some ⟨bl.getD m 0, 0, none⟩) n n
theorem rwV_len (bl : List Nat) (n k : Nat) : (rwV bl n k).length = k := by simp [rwV]
theorem rwV_get {bl : List Nat} {n k m : Nat} (h : m < k) : (rwV bl n k)[m]? = some (.slice (some ⟨bl.getD m 0, 0, none⟩) n n) := by simp [rwV, h]
theorem rws_slV {bl : List Nat} {n k : Nat} {Z : Nat → List Int} (h : ∀ m, m < k → (Z m).length = n) : (rws bl n Z k).map slV = rwV bl n k := by
  unfold rws rwV
  rw [List.map_map]
  refine List.map_congr_left fun m hm => ?_
  show slV _ = _
  unfold slV
  rw [ints_length, h m (List.mem_range.1 hm)]
theorem rws_snoc {bl : List Nat} {n k : Nat} {Z : Nat → List Int} (b : Nat) (hl : bl.length = k) : rws bl n Z k ++ [⟨some ⟨b, 0, none⟩, n, 3, ints (Z k)⟩] = rws (bl ++ [b]) n Z (k + 1) := by
  unfold rws
  rw [List.range_succ, List.map_append]
  congr 1
  · refine List.map_congr_left fun m hm => ?_
    have := List.mem_range.1 hm
    rw [List.getD_eq_getElem?_getD, List.getD_eq_getElem?_getD, List.getElem?_append_left (by omega)]
  · subst hl
    simp
theorem rwV_snoc {bl : List Nat} {n k : Nat} (b : Nat) (hl : bl.length = k) : rwV bl n k ++ [.slice (some ⟨b, 0, none⟩) n n] = rwV (bl ++ [b]) n (k + 1) := by
  unfold rwV
  rw [List.range_succ, List.map_append]
  congr 1
  · refine List.map_congr_left fun m hm => ?_
    have := List.mem_range.1 hm
    rw [List.getD_eq_getElem?_getD, List.getD_eq_getElem?_getD, List.getElem?_append_left (by omega)]
  · subst hl
    simp
/-- Of the renamed table all is written that comes ahead of (x, y). -/
def Wrt (n : Nat) (f : Nat → Nat → Nat) (g : Nat → Nat) (Z : Nat → List Int) (x y : Nat) : Prop :=
  (∀ m, m < n → (Z m).length = n) ∧ ∀ a b, a < n → b < n → (a < x ∨ (a = x ∧ b < y)) → nth (Z (g a)) (g b) = ((g (f a b) : Nat) : Int)
theorem Wrt.zero (n : Nat) (f : Nat → Nat → Nat) (g : Nat → Nat) : Wrt n f g (fun _ => List.replicate n 0) 0 0 :=
  ⟨fun _ _ => by simp, fun a b _ _ h => by omega⟩
theorem Wrt.row {n : Nat} {f : Nat → Nat → Nat} {g : Nat → Nat} {Z : Nat → List Int} {x : Nat} (h : Wrt n f g Z x n) : Wrt n f g Z (x + 1) 0 :=
  ⟨h.1, fun a b ha hb e => h.2 a b ha hb (by omega)⟩
theorem Wrt.step {n : Nat} {f : Nat → Nat → Nat} {g : Nat → Nat} {Z : Nat → List Int} {x y : Nat} (h : Wrt n f g Z x y) (hx : x < n) (hy : y < n) (hlt : ∀ x, x < n → g x < n) (hinj : ∀ x y, x < n → y < n → g x = g y → x = y) :
    Wrt n f g (upd Z (g x) ((Z (g x)).set (g y) ((g (f x y) : Nat) : Int))) x (y + 1) := by
  refine ⟨fun m hm => ?_, fun a b ha hb e => ?_⟩
  · unfold upd
    by_cases c : m = g x
    · rw [if_pos c, List.length_set]; exact h.1 _ (hlt x hx)
    · rw [if_neg c]; exact h.1 m hm
  · unfold upd
    by_cases c : g a = g x
    · obtain rfl := hinj a x ha hx c
      rw [if_pos rfl, nth_set _ _ _ _ (by rw [h.1 _ (hlt a ha)]; exact hlt y hy)]
      by_cases d : g y = g b
      · obtain rfl := hinj y b hy hb d
        rw [if_pos rfl]
      · rw [if_neg d]
        refine h.2 a b ha hb ?_
        rcases e with e | ⟨_, e⟩
        · exact .inl e
        · by_cases q : b = y
          · subst q; exact absurd rfl d
          · exact .inr ⟨rfl, by omega⟩
    · rw [if_neg c]
      refine h.2 a b ha hb ?_
      rcases e with e | ⟨e, _⟩
      · exact .inl e
      · subst e; exact absurd rfl c
/-- The made table. -/
def tbZ (n : Nat) (Z : Nat → List Int) : List (List Int) := (List.range n).map Z
theorem tbZ_len (n : Nat) (Z : Nat → List Int) : (tbZ n Z).length = n := by simp [tbZ]
theorem tbZ_row {n : Nat} {Z : Nat → List Int} {m : Nat} (h : m < n) : (tbZ n Z).getD m [] = Z m := by simp [tbZ, h]
theorem Wrt.ren {n : Nat} {f : Nat → Nat → Nat} {g : Nat → Nat} {Z : Nat → List Int} (h : Wrt n f g Z n 0) (hf : ∀ x y, x < n → y < n → f x y < n) (hlt : ∀ x, x < n → g x < n) (hinj : ∀ x y, x < n → y < n → g x = g y → x = y) :
    Shp (tbZ n Z) n ∧ Ren n f (tbn (tbZ n Z)) g := by
  have hv : ∀ a b, a < n → b < n → tb (tbZ n Z) (g a) (g b) = ((g (f a b) : Nat) : Int) := fun a b ha hb => by
    unfold tb; rw [tbZ_row (hlt a ha)]; exact h.2 a b ha hb (.inl ha)
  have on : ∀ y, y < n → ∃ x, x < n ∧ g x = y := fun y hy => by
    obtain ⟨u, hu, _, he⟩ := onto_in (p := fun _ => True) (g := g) (n := n) (fun v hv _ => ⟨hlt v hv, trivial⟩) hinj hy trivial
    exact ⟨u, hu, he⟩
  refine ⟨⟨tbZ_len n Z, fun x hx => ?_⟩, hlt, hinj, fun x y hx hy => by unfold tbn; rw [hv x y hx hy]; exact Int.toNat_natCast _⟩
  rw [tbZ_row hx]
  refine ⟨h.1 x hx, fun y hy => ?_⟩
  obtain ⟨a, ha, rfl⟩ := on x hx
  obtain ⟨b, hb, rfl⟩ := on y hy
  rw [hv a b ha hb]
  have := hlt _ (hf a b ha hb)
  omega
theorem Ren.qnd {n : Nat} {f : Nat → Nat → Nat} {g : Nat → Nat} {R : List (List Int)} (h : Ren n f (tbn R) g) (hs : Shp R n) (h1 : 1 ≤ n) (h30 : n ≤ 30) (hf : ∀ x y, x < n → y < n → f x y < n) (hi : IdmN f n) (hv : IvtN f n) (hd : DstN f n) : Qnd R := by
  have hl := hs.1
  unfold Qnd
  rw [hl]
  exact ⟨⟨h1, h30⟩, hs, (idm_iff hs).2 (h.idm hi), (ivt_iff hs).2 (h.ivt hf hv), (dst_iff hs).2 (h.dst hf hd)⟩
/-- How many of the first i rows have s entries. -/
def ctL (U : List (List Int)) (i s : Nat) : Nat := ((U.take i).filter fun l => l.length == s).length
theorem ctL_step {U : List (List Int)} {i : Nat} (h : i < U.length) (s : Nat) : ctL U (i + 1) s = ctL U i s + if (U.getD i []).length = s then 1 else 0 := by
  unfold ctL
  rw [List.take_add_one, List.getElem?_eq_getElem h, List.getD_eq_getElem?_getD, List.getElem?_eq_getElem h]
  simp only [Option.toList_some, Option.getD_some]
  rw [List.filter_append, List.length_append]
  congr 1
  by_cases e : U[i].length = s
  · rw [if_pos e]; simp [e]
  · rw [if_neg e]; simp [e]
theorem ctL_le (U : List (List Int)) (i s : Nat) : ctL U i s ≤ U.length := by
  unfold ctL
  have h1 := List.length_filter_le (fun l : List Int => l.length == s) (U.take i)
  have h2 := List.length_take_le i U
  have h3 := List.length_take (i := i) (l := U)
  omega
def szs (n : Nat) (U V : List (List Int)) (i j : Nat) : List Int := (List.range (n + 1)).map fun s => (ctL U i s : Int) - (ctL V j s : Int)
theorem szs_len (n : Nat) (U V : List (List Int)) (i j : Nat) : (szs n U V i j).length = n + 1 := by simp [szs]
theorem szs_zero (n : Nat) (U V : List (List Int)) : szs n U V 0 0 = List.replicate (n + 1) 0 := by
  apply List.ext_getElem
  · simp [szs]
  · intro s h1 h2; simp [szs, ctL]
theorem szs_nth {n : Nat} {U V : List (List Int)} {i j s : Nat} (h : s ≤ n) : nth (szs n U V i j) s = (ctL U i s : Int) - (ctL V j s : Int) := by simp [szs, nth, show s < n + 1 by omega]
theorem szs_up {n : Nat} {U V : List (List Int)} {i j s : Nat} (hi : i < U.length) (hs : (U.getD i []).length = s) (hn : s ≤ n) : (szs n U V i j).set s (nth (szs n U V i j) s + 1) = szs n U V (i + 1) j := by
  rw [szs_nth hn]
  apply List.ext_getElem
  · simp [szs]
  · intro k h1 h2
    rw [List.getElem_set]
    simp only [szs, List.getElem_map, List.getElem_range]
    rw [ctL_step hi, hs]
    by_cases e : s = k
    · subst e; rw [if_pos rfl, if_pos rfl]; omega
    · rw [if_neg e, if_neg e]; omega
theorem szs_dn {n : Nat} {U V : List (List Int)} {i j s : Nat} (hj : j < V.length) (hs : (V.getD j []).length = s) (hn : s ≤ n) : (szs n U V i j).set s (nth (szs n U V i j) s - 1) = szs n U V i (j + 1) := by
  rw [szs_nth hn]
  apply List.ext_getElem
  · simp [szs]
  · intro k h1 h2
    rw [List.getElem_set]
    simp only [szs, List.getElem_map, List.getElem_range]
    rw [ctL_step hj, hs]
    by_cases e : s = k
    · subst e; rw [if_pos rfl, if_pos rfl]; omega
    · rw [if_neg e, if_neg e]; omega
theorem szs_mid {n : Nat} {U V : List (List Int)} {i j s : Nat} (h : s ≤ n) (hu : U.length ≤ 30) (hv : V.length ≤ 30) : -30 ≤ nth (szs n U V i j) s ∧ nth (szs n U V i j) s ≤ 30 := by
  rw [szs_nth h]
  have h1 := ctL_le U i s
  have h2 := ctL_le V j s
  omega
theorem ctL_all (U : List (List Int)) (s : Nat) : ctL U U.length s = (U.filter fun l => l.length == s).length := by unfold ctL; rw [List.take_length]
theorem szs_end {n : Nat} {U V : List (List Int)} (h : ∀ s, (U.filter fun l => l.length == s).length = (V.filter fun l => l.length == s).length) {s : Nat} (hs : s ≤ n) : nth (szs n U V U.length V.length) s = 0 := by
  rw [szs_nth hs, ctL_all, ctL_all, h s]; omega
theorem len_same {U V : List (List Int)} (h : ∀ s, (U.filter fun l => l.length == s).length = (V.filter fun l => l.length == s).length) : U.length = V.length := by
  have hc : ∀ (W : List (List Int)) (s : Nat), List.count s (W.map List.length) = (W.filter fun l => l.length == s).length := fun W s => by
    rw [List.count_eq_countP, List.countP_map, List.countP_eq_length_filter]; rfl
  have hp : (U.map List.length).Perm (V.map List.length) := List.perm_iff_count.2 fun s => by rw [hc, hc, h s]
  have := hp.length_eq
  simpa using this
end Go.Proofs.YtlgiponfcmeiiaaDoor
