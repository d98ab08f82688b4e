/- Plain laws: smoothing and the other operations of mirror. -/
import Derived.Test.YtkopbcehfbmnmaaSmoothB
import Derived.Test.YtkopbcehfbmnmaaMirB
namespace Go.Proofs.Ytkopbcehfbmnmaa
open Go Go.RowKit
/-- A move of the slots that carries the joins at c. -/
structure Tau (M M1 : List Int) (n p p' c : Nat) (τ : Nat → Nat) : Prop where
  inj : Inj τ (4 * n)
  mate : ∀ x, x < 4 * n → mt M1 (τ x) = τ (mt M x)
  div : ∀ x, x < 4 * n → τ x / 4 = x / 4
  opp : ∀ x, x < 4 * n → τ (tn x 2) = tn (τ x) 2
  turn : ∀ x, x < 4 * n → x / 4 ≠ c → (τ (tn x 1) = tn (τ x) 1 ∨ τ (tn x 1) = tn (τ x) (-1))
  join : ∀ x, x < 4 * n → x / 4 = c → τ (jn p x) = jn p' (τ x)
namespace Tau
variable {M M1 : List Int} {n p p' c : Nat} {τ : Nat → Nat} (h : Tau M M1 n p p' c τ) (hm : Mates M n)
include h hm
theorem thr {m : Nat} (hx : m < 4 * n) : thr M1 p' c (τ m) = τ (thr M p c m) := by
  unfold Proofs.Ytkopbcehfbmnmaa.thr
  rw [h.div m hx]
  by_cases h1 : m / 4 = c
  · have hj : jn p m < 4 * n := jn_lt hx
    have hmj := hm.lt hj
    rw [if_pos h1, if_pos h1, ← h.join m hx h1, h.mate _ hj, h.div _ hmj]
    by_cases h2 : mt M (jn p m) / 4 = c
    · rw [if_pos h2, if_pos h2, ← h.join _ hmj h2, h.mate _ (jn_lt hmj)]
    · rw [if_neg h2, if_neg h2]
  · rw [if_neg h1, if_neg h1]
theorem inn {y : Nat} (hy : y < 4 * n) : inn M1 p' c (τ y) = inn M p c y := by
  have he : ∀ a b, a < 4 * n → b < 4 * n → (τ a = τ b ↔ a = b) := fun a b ha hb => ⟨h.inj.inj a b ha hb, fun e => by rw [e]⟩
  rw [Bool.eq_iff_iff, inn_iff, inn_iff, h.div y hy]
  by_cases hc : y / 4 = c
  · have hj : jn p y < 4 * n := jn_lt hy
    have ht : tn y 2 < 4 * n := tn_lt _ _ _ hy
    have htj : tn (jn p y) 2 < 4 * n := tn_lt _ _ _ hj
    rw [h.mate y hy, ← h.join y hy hc, ← h.opp y hy, h.mate _ hj, ← h.opp _ hj, he _ _ (hm.lt hy) hj, he _ _ (hm.lt hy) ht, he _ _ (hm.lt hj) htj]
  · exact ⟨fun e => absurd e.1 hc, fun e => absurd e.1 hc⟩
theorem jd1 {x y : Nat} (hx : x < 4 * n) (a : Jd M p c x y) : Jd M1 p' c (τ x) (τ y) := by
  refine (a (fun z => z < 4 * n ∧ Jd M1 p' c (τ x) (τ z)) ⟨hx, Jd.refl _⟩ (fun z ⟨hz, hq⟩ => ⟨hm.lt hz, ?_⟩) (fun z ⟨hz, hq⟩ hzc => ⟨tn_lt _ _ _ hz, ?_⟩) (fun z ⟨hz, hq⟩ hzc => ⟨jn_lt hz, ?_⟩)).2
  · rw [← h.mate z hz]; exact hq.mate
  · have hc : τ z / 4 ≠ c := by rw [h.div z hz]; exact hzc
    rcases h.turn z hz hzc with e | e
    · rw [e]; exact hq.turn hc
    · rw [e]; exact hq.turn3 hc
  · rw [h.join z hz hzc]
    exact hq.join (by rw [h.div z hz]; exact hzc)
theorem jd2 {x w : Nat} (hx : x < 4 * n) (a : Jd M1 p' c (τ x) w) : ∃ y, y < 4 * n ∧ w = τ y ∧ Jd M p c x y := by
  refine a (fun w => ∃ y, y < 4 * n ∧ w = τ y ∧ Jd M p c x y) ⟨x, hx, rfl, Jd.refl _⟩ ?_ ?_ ?_
  · rintro _ ⟨y, hy, rfl, hq⟩
    exact ⟨_, hm.lt hy, h.mate y hy, hq.mate⟩
  · rintro _ ⟨y, hy, rfl, hq⟩ hc
    rw [h.div y hy] at hc
    have ht : tn y 1 < 4 * n := tn_lt _ _ _ hy
    rcases h.turn y hy hc with e | e
    · exact ⟨_, ht, e.symm, hq.turn hc⟩
    · refine ⟨tn (tn y 1) 2, tn_lt _ _ _ ht, ?_, (hq.turn hc).turn2 (by rw [tn_div]; exact hc)⟩
      rw [h.opp _ ht, e, tn_tn _ _ _ (by omega) (by omega) (by omega)]; rfl
  · rintro _ ⟨y, hy, rfl, hq⟩ hc
    rw [h.div y hy] at hc
    exact ⟨_, jn_lt hy, (h.join y hy hc).symm, hq.join hc⟩
theorem jd {x y : Nat} (hx : x < 4 * n) (hy : y < 4 * n) : Jd M1 p' c (τ x) (τ y) ↔ Jd M p c x y := by
  refine ⟨fun a => ?_, h.jd1 hm hx⟩
  obtain ⟨z, hz, e, b⟩ := h.jd2 hm hx a
  rw [h.inj.inj y z hy hz e]; exact b
theorem newL (hm1 : Mates M1 n) (hp : p = 0 ∨ p = 1) (hp' : p' = 0 ∨ p' = 1) (hc : c < n) : newL M1 p' c = newL M p c := by
  rw [← newL_nc hm1 hp' hc, ← newL_nc hm hp hc]
  have hE := Jd.eqv (c := c) hm hp
  have hE1 := Jd.eqv (c := c) hm1 hp'
  refine Nat.le_antisymm ?_ ?_
  · refine nc_le hE1 hE (fun x y hx _ ho hi => by rw [inn_eq hm hp hx ho]; exact hi) (back τ (4 * n)) (fun x hx hi => ⟨back_lt h.inj hx, ?_⟩) (fun x y hx hy _ _ ho => ?_)
    · rw [← h.inn hm (back_lt h.inj hx), f_back h.inj hx]; exact hi
    · have := h.jd1 hm (back_lt h.inj hx) ho
      rwa [f_back h.inj hx, f_back h.inj hy] at this
  · refine nc_le hE hE1 (fun x y hx _ ho hi => by rw [inn_eq hm1 hp' hx ho]; exact hi) τ (fun x hx hi => ⟨h.inj.lt x hx, ?_⟩) (fun x y hx hy _ _ ho => (h.jd hm hx hy).1 ho)
    rw [h.inn hm hx]; exact hi
/-- The mates behind the smoothing. -/
theorem sm (hp : p = 0 ∨ p = 1) (hc : c < n) {σ : Nat → Nat} (hup : ∀ x, x < 4 * (n - 1) → up c (σ x) = τ (up c x)) {x : Nat} (hx : x < 4 * (n - 1)) : dn c (Proofs.Ytkopbcehfbmnmaa.thr M1 p' c (mt M1 (up c (σ x)))) = σ (dn c (Proofs.Ytkopbcehfbmnmaa.thr M p c (mt M (up c x)))) := by
  have hu := up_lt (c := c) hx
  have ho := thr_out hm hp hu (up_out c x)
  have hl := thr_lt hm (hm.lt hu) (p := p) (c := c)
  rw [hup x hx, h.mate _ hu, h.thr hm (hm.lt hu)]
  have := hup (dn c (Proofs.Ytkopbcehfbmnmaa.thr M p c (mt M (up c x)))) (dn_lt hc hl ho)
  rw [up_dn ho] at this
  rw [← this, dn_up]
end Tau
/-- The slot that is joined. -/
def js (pos : Bool) (s : Nat) : Nat := if s % 2 = (if pos then 0 else 1) then (s + 1) % 4 else (s + 3) % 4
theorem js_lt (pos : Bool) (s : Nat) : js pos s < 4 := by
  unfold js
  by_cases h : s % 2 = (if pos then 0 else 1)
  · rw [if_pos h]; omega
  · rw [if_neg h]; omega
theorem sl_join : ∀ k, k < 4 → ∀ pos ch : Bool, ∀ s, s < 4 → sl k pos ch (js pos s) = js (sgn k pos ch) (sl k pos ch s) := by decide
theorem sl_opp : ∀ k, k < 4 → ∀ pos ch : Bool, ∀ s, s < 4 → sl k pos ch ((s + 2) % 4) = (sl k pos ch s + 2) % 4 := by decide
theorem sl_turn : ∀ k, k < 4 → ∀ pos ch : Bool, ∀ s, s < 4 → (sl k pos ch ((s + 1) % 4) = (sl k pos ch s + 1) % 4 ∨ sl k pos ch ((s + 1) % 4) = (sl k pos ch s + 3) % 4) := by decide
theorem tn_slot (x : Nat) (b : Int) (t : Nat) (ht : (((x % 4 : Nat) : Int) + b + 8).toNat % 4 = t) : tn x b = 4 * (x / 4) + t := by unfold tn; rw [ht]
theorem jn_js {S : List Int} {c : Nat} (hS : nth S c = 1 ∨ nth S c = -1) (x : Nat) : jn (pS S c) x = 4 * (x / 4) + js (decide (nth S c = 1)) (x % 4) := by
  have hp : pS S c = if decide (nth S c = 1) then 0 else 1 := by
    unfold pS
    rcases hS with g | g <;> rw [g] <;> decide
  unfold jn js
  rw [hp]
  generalize (if decide (nth S c = 1) = true then 0 else 1) = p
  by_cases e : x % 2 = p
  · rw [if_pos e, if_pos (by omega)]; unfold tn; omega
  · rw [if_neg e, if_neg (by omega)]; unfold tn; omega
theorem slm_at (f : Nat → Nat → Nat) (c s : Nat) (hs : s < 4) : slm f (4 * c + s) = 4 * c + f c s := by
  unfold slm
  rw [show (4 * c + s) / 4 = c from by omega, show (4 * c + s) % 4 = s from by omega]
section
variable {S M : List Int} {L : Int} (hv : vldB S M L = true)
include hv
theorem op_tau (k q c : Nat) (hk : k < 4) (hc : c < S.length) : Tau M (mvL (opT S k q) M) S.length (pS S c) (pS (mulS S (opG k q)) c) c (opT S k q) := by
  have hs := vldB_shape hv
  have hE := fun x hx => opT_slm hs.sign k q x hx hk
  have hf : ∀ (c s : Nat), s < 4 → sl k (decide (nth S c = 1)) (decide (c = q)) s < 4 := fun c s h => sl_lt _ _ _ h
  have key : ∀ x, x < 4 * S.length → opT S k q x = 4 * (x / 4) + sl k (decide (nth S (x / 4) = 1)) (decide (x / 4 = q)) (x % 4) := hE
  refine ⟨opT_inj S k q _, fun x hx => ?_, fun x hx => ?_, fun x hx => ?_, fun x hx _ => ?_, fun x hx hxc => ?_⟩
  · have := nth_mvL hs.len (opT_inj S k q S.length) x hx
    unfold mt at this ⊢; omega
  · rw [hE x hx]; exact slm_div hf x
  · have hl : tn x 2 < 4 * S.length := tn_lt _ _ _ hx
    have h4 := hf (x / 4) (x % 4) (Nat.mod_lt _ (by decide))
    rw [key _ hl, tn_div, key x hx, show tn x 2 % 4 = (x % 4 + 2) % 4 from by unfold tn; omega, sl_opp k hk _ _ _ (Nat.mod_lt _ (by decide))]
    unfold tn; omega
  · have hl : tn x 1 < 4 * S.length := tn_lt _ _ _ hx
    have h4 := hf (x / 4) (x % 4) (Nat.mod_lt _ (by decide))
    rw [key _ hl, tn_div, key x hx, show tn x 1 % 4 = (x % 4 + 1) % 4 from by unfold tn; omega]
    rcases sl_turn k hk (decide (nth S (x / 4) = 1)) (decide (x / 4 = q)) (x % 4) (Nat.mod_lt _ (by decide)) with e | e
    · left; rw [e]; unfold tn; omega
    · right; rw [e]; unfold tn; omega
  · have hj : jn (pS S c) x < 4 * S.length := jn_lt hx
    have h4 := hf (x / 4) (x % 4) (Nat.mod_lt _ (by decide))
    have hjs : js (decide (nth S c = 1)) (x % 4) < 4 := js_lt _ _
    have hjm : jn (pS S c) x % 4 = js (decide (nth S c = 1)) (x % 4) := by rw [jn_js (hs.sign c hc)]; omega
    rw [key _ hj, jn_div, hjm, key x hx, hxc, sl_join k hk _ _ _ (Nat.mod_lt _ (by decide)), ← opG_sgn hs.sign k q c hk hc, jn_js (opS_sign hs.sign k q c (by rw [mulS_len]; exact hc))]
    rw [hxc] at h4
    rw [show (4 * c + sl k (decide (nth S c = 1)) (decide (c = q)) (x % 4)) / 4 = c from by omega, show (4 * c + sl k (decide (nth S c = 1)) (decide (c = q)) (x % 4)) % 4 = sl k (decide (nth S c = 1)) (decide (c = q)) (x % 4) from by omega]
omit hv in
theorem smS_op (k q q' c : Nat) (hk : k < 3) (hc : c < S.length) : smS (mulS S (opG k q)) c = mulS (smS S c) (opG k q') := by
  have hl : (smS (mulS S (opG k q)) c).length = S.length - 1 := by rw [smS_len _ _ (by rw [mulS_len]; exact hc), mulS_len]
  have hl2 := smS_len S c hc
  refine ext_range (n := S.length - 1) hl (by rw [mulS_len, hl2]) fun i hi => ?_
  have hd : del c i < S.length := by unfold del; split <;> omega
  show nth ((mulS S (opG k q)).eraseIdx c) i = _
  rw [nth_erase, nth_mulS _ _ _ hd, nth_mulS _ _ _ (by rw [hl2]; exact hi)]
  show _ = nth (S.eraseIdx c) i * _
  rw [nth_erase]
  have : opG k q (del c i) = opG k q' i := by
    unfold opG swS
    rcases (show k = 0 ∨ k = 1 ∨ k = 2 from by omega) with rfl | rfl | rfl <;> rfl
  rw [this]
/-- SMOOTHING COMMUTES WITH MIRROR IMAGES AND REVERSAL. -/
theorem sm_op (k c : Nat) (hk : k < 3) (hc : c < S.length) :
    smS (mulS S (opG k 0)) c = mulS (smS S c) (opG k 0) ∧ smM (mulS S (opG k 0)) (mvL (opT S k 0) M) c = mvL (opT (smS S c) k 0) (smM S M c) ∧ newL (mvL (opT S k 0) M) (pS (mulS S (opG k 0)) c) c = newL M (pS S c) c := by
  have hs := vldB_shape hv
  have hm := hs.mates2
  have hT := op_tau hv k 0 c (by omega) hc
  have hl2 := smS_len S c hc
  have hs1 := vldB_shape (op_valid hv k 0)
  have hsg : ∀ i, i < (smS S c).length → nth (smS S c) i = 1 ∨ nth (smS S c) i = -1 := fun i hi => by
    rw [hl2] at hi
    show nth (S.eraseIdx c) i = 1 ∨ nth (S.eraseIdx c) i = -1
    rw [nth_erase]
    exact hs.sign _ (by unfold del; split <;> omega)
  have hup : ∀ x, x < 4 * (S.length - 1) → up c (opT (smS S c) k 0 x) = opT S k 0 (up c x) := fun x hx => by
    have h1 : up c x % 4 = x % 4 := by unfold up; split <;> omega
    have h2 : up c x / 4 = del c (x / 4) := by unfold up del; split <;> omega
    have h3 : nth (smS S c) (x / 4) = nth S (del c (x / 4)) := nth_erase S c _
    rw [opT_slm hsg k 0 x (by rw [hl2]; exact hx) (by omega), opT_slm hs.sign k 0 _ (up_lt hx) (by omega)]
    unfold slm
    show up c (4 * (x / 4) + sl k (decide (nth (smS S c) (x / 4) = 1)) (decide (x / 4 = 0)) (x % 4)) = 4 * (up c x / 4) + sl k (decide (nth S (up c x / 4) = 1)) (decide (up c x / 4 = 0)) (up c x % 4)
    rw [h1, h2, h3]
    have h4 : sl k (decide (nth S (del c (x / 4)) = 1)) (decide (x / 4 = 0)) (x % 4) = sl k (decide (nth S (del c (x / 4)) = 1)) (decide (del c (x / 4) = 0)) (x % 4) := by
      unfold sl
      rcases (show k = 0 ∨ k = 1 ∨ k = 2 from by omega) with rfl | rfl | rfl <;> rfl
    rw [h4]
    have h5 := sl_lt k (decide (nth S (del c (x / 4)) = 1)) (decide (del c (x / 4) = 0)) (s := x % 4) (Nat.mod_lt _ (by decide))
    generalize sl k (decide (nth S (del c (x / 4)) = 1)) (decide (del c (x / 4) = 0)) (x % 4) = t at *
    unfold up del
    split <;> split <;> omega
  refine ⟨smS_op k 0 0 c hk hc, ?_, ?_⟩
  · have hi := opT_inj (smS S c) k 0 (S.length - 1)
    have hml := smM_len S M c
    refine ext_range (n := 4 * (S.length - 1)) (by rw [smM_len, mulS_len]) (by rw [mvL_len, hml]) fun i hi' => ?_
    obtain ⟨x, hx, rfl⟩ : ∃ x, x < 4 * (S.length - 1) ∧ opT (smS S c) k 0 x = i := ⟨back _ _ i, back_lt hi hi', f_back hi hi'⟩
    rw [nth_mvL hml hi x hx, nth_smM _ _ _ _ (by rw [mulS_len]; exact hi'), hT.sm hm (pS_pp S c) hc hup hx]
    have : mt (smM S M c) x = dn c (thr M (pS S c) c (mt M (up c x))) := by
      have := nth_smM S M c x hx
      unfold mt at this ⊢; omega
    rw [this]
  · refine hT.newL hm ?_ (pS_pp S c) (pS_pp _ c) hc
    have := hs1.mates2
    rwa [mulS_len] at this
/-- .. AND DOES NOT DEPEND ON WHICH STRAND IS OVER. -/
theorem sm_switch (c : Nat) (hc : c < S.length) :
    smS (mulS S (swS fun d => decide (d = c))) c = smS S c ∧ smM (mulS S (swS fun d => decide (d = c))) (mvL (trn (swB S fun d => decide (d = c))) M) c = smM S M c ∧ newL (mvL (trn (swB S fun d => decide (d = c))) M) (pS (mulS S (swS fun d => decide (d = c))) c) c = newL M (pS S c) c := by
  have hs := vldB_shape hv
  have hm := hs.mates2
  have hT : Tau M (mvL (trn (swB S fun d => decide (d = c))) M) S.length (pS S c) (pS (mulS S (swS fun d => decide (d = c))) c) c (trn (swB S fun d => decide (d = c))) := op_tau hv 3 c c (by omega) hc
  have hl2 := smS_len S c hc
  have hs1 := vldB_shape (ex_valid hv fun d => decide (d = c))
  refine ⟨?_, ?_, ?_⟩
  · refine ext_range (n := S.length - 1) (by rw [smS_len _ _ (by rw [mulS_len]; exact hc), mulS_len]) hl2 fun i hi => ?_
    have hd : del c i < S.length := by unfold del; split <;> omega
    have hd2 : del c i ≠ c := by unfold del; split <;> omega
    show nth ((mulS S _).eraseIdx c) i = nth (S.eraseIdx c) i
    rw [nth_erase, nth_erase, nth_mulS _ _ _ hd]
    show _ * (if decide (del c i = c) = true then (-1 : Int) else 1) = _
    rw [decide_eq_false hd2, if_neg (show ¬ (false = true) by decide), Int.mul_one]
  · refine ext_range (n := 4 * (S.length - 1)) (by rw [smM_len, mulS_len]) (smM_len S M c) fun i hi => ?_
    rw [nth_smM _ _ _ _ (by rw [mulS_len]; exact hi), nth_smM _ _ _ _ hi]
    have := hT.sm hm (pS_pp S c) hc (σ := fun x => x) (fun x _ => by
      show _ = tn (up c x) (if decide (up c x / 4 = c) = true then (if nth S (up c x / 4) = 1 then -3 else -1) else 0)
      rw [decide_eq_false (up_out c x), if_neg (show ¬ (false = true) by decide), tn_zero]) hi
    rw [this]
  · refine hT.newL hm ?_ (pS_pp S c) (pS_pp _ c) hc
    have := hs1.mates2
    rwa [mulS_len] at this
end
end Go.Proofs.Ytkopbcehfbmnmaa
