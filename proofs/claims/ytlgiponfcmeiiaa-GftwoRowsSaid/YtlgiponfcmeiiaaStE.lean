/- The walks of stableCmpFunc and SortStableFunc. -/
import Derived.Test.YtlgiponfcmeiiaaStD
namespace Go.Proofs.Ytlgiponfcmeiiaa
open Go Go.RowKit
set_option maxRecDepth 100000 in
set_option maxHeartbeats 1000000 in
theorem stable_any (S : SC) (k : S.Ok) (W : World) (xs : List Int) (h : S.At W xs) (z : Nat) (hz : z = 0) :
    Calls Try.prog 33 #[.slice (some ⟨S.b, z, none⟩) S.n S.n, .int .i64 (S.n : Int), .func (.func 30) #[] #[.pointer (some ⟨S.p, 0, none⟩)]] W fun e w' => e = .returned (.tuple #[]) ∧ ∃ ys, S.At w' ys := by
  have hn := k.hn
  have HI : Hid (∀ (W : World) (xs : List Int) (a b : Nat), S.At W xs → b ≤ S.n → a ≤ S.n → Calls Try.prog 37 #[.slice (some ⟨S.b, z, none⟩) S.n S.n, .int .i64 (a : Int), .int .i64 (b : Int), .func (.func 30) #[] #[.pointer (some ⟨S.p, 0, none⟩)]] W fun e w' => e = .returned (.tuple #[]) ∧ ∃ ys, S.At w' ys) := Lib.hid fun W xs a b h h1 h2 => insertion_any S k W xs h z hz a b h1 h2
  have HS : Hid (∀ (W : World) (xs : List Int) (a m b : Nat) (M : Int), S.At W xs → M = (m : Int) → a < m → m < b → b ≤ S.n → Calls Try.prog 38 #[.slice (some ⟨S.b, z, none⟩) S.n S.n, .int .i64 (a : Int), .int .i64 M, .int .i64 (b : Int), .func (.func 30) #[] #[.pointer (some ⟨S.p, 0, none⟩)]] W fun e w' => e = .returned (.tuple #[]) ∧ ∃ ys, S.At w' ys) := Lib.hid fun W xs a m b M h h0 h1 h2 h3 => by
    subst h0
    exact sym_any S k z hz _ W xs a m b h (Nat.le_refl _) h1 h2 h3
  have Hh := Lib.hid h
  clear k h hz
  go_enter Try.func33, Try.ntmps33
  go_wp2_with fail
  go_loopg [7, 8] S.n (fun g u v wr => ∃ (a b : Nat) (ys : List Int), a ≤ S.n ∧ b ≤ a + 20 ∧ a + 20 ≤ b ∧ g = S.n - a ∧ u = .int .i64 a ∧ v = .int .i64 b ∧ S.At wr ys)
  case atStart => exact ⟨0, 20, xs, Nat.zero_le _, by omega, by omega, rfl, rfl, rfl, Hh.out⟩
  case round =>
    obtain ⟨a, b, ys, han, hb, hb2, rfl, rfl, rfl, hh⟩ := hrel
    have Hr := Lib.hid hh
    clear hh Hh
    by_cases hbn : b ≤ S.n
    · have HC := Lib.hid (HI.out wr ys a b Hr.out hbn (by omega))
      clear Hr
      go_wp2_with fail
      refine HC.out.mono ?_
      rintro e w1 ⟨rfl, zs, hs⟩
      have Hs := Lib.hid hs
      clear hs HC
      go_wp2_with fail
      go_roundg (S.n - b)
      case measure => omega
      case rel => exact ⟨b, b + 20, zs, hbn, by omega, by omega, rfl, rfl, by go_num, Hs.out⟩
    · have HC := Lib.hid (HI.out wr ys a S.n Hr.out (Nat.le_refl _) han)
      clear Hr
      go_wp2_with fail
      refine HC.out.mono ?_
      rintro e w1 ⟨rfl, zs, hs⟩
      have Hs := Lib.hid hs
      clear hs HC hb hb2 hbn
      go_wp2_with fail
      go_loopg [6] S.n (fun g v wr => ∃ (bs : Nat) (ys : List Int), 20 ≤ bs ∧ g = S.n - (bs - 20) ∧ v = .int .i64 bs ∧ S.At wr ys)
      case atStart => exact ⟨20, zs, by omega, by omega, rfl, Hs.out⟩
      case round =>
        obtain ⟨bs, ys, hbs, rfl, rfl, hh⟩ := hrel
        have Hr := Lib.hid hh
        clear hh Hs
        by_cases hlt : bs < S.n
        · go_wp2_with fail
          go_loopg [7, 8] S.n (fun g u v wr => ∃ (a b : Nat) (ys : List Int), a ≤ S.n ∧ b ≤ a + 2 * bs ∧ a + 2 * bs ≤ b ∧ g = S.n - a ∧ u = .int .i64 a ∧ v = .int .i64 b ∧ S.At wr ys)
          case atStart => exact ⟨0, 2 * bs, ys, Nat.zero_le _, by omega, by omega, rfl, rfl, by go_num, Hr.out⟩
          case round =>
            obtain ⟨a, b, ys, han, hb, hb2, rfl, rfl, rfl, hh⟩ := hrel
            have Hs := Lib.hid hh
            clear hh Hr
            by_cases hbn : b ≤ S.n
            · have HC := Lib.hid (HS.out wr ys a (a + bs) b ((a : Int) + bs) Hs.out (by omega) (by omega) (by omega) hbn)
              clear Hs
              go_wp2_with fail
              refine HC.out.mono ?_
              rintro e w1 ⟨rfl, zs, hs⟩
              have Hs := Lib.hid hs
              clear hs HC
              go_wp2_with fail
              go_roundg (S.n - b)
              case measure => omega
              case rel => exact ⟨b, b + 2 * bs, zs, hbn, by omega, by omega, rfl, rfl, by go_num, Hs.out⟩
            · by_cases hm : a + bs < S.n
              · have HC := Lib.hid (HS.out wr ys a (a + bs) S.n ((a : Int) + bs) Hs.out (by omega) (by omega) hm (Nat.le_refl _))
                clear Hs
                go_wp2_with fail
                refine HC.out.mono ?_
                rintro e w1 ⟨rfl, zs, hs⟩
                have Hs := Lib.hid hs
                clear hs HC
                go_wp2_with fail
                go_roundg (S.n - (2 * bs - 20))
                case measure => omega
                case rel => exact ⟨2 * bs, zs, by omega, rfl, by go_num, Hs.out⟩
              · go_wp2_with fail
                go_roundg (S.n - (2 * bs - 20))
                case measure => omega
                case rel => exact ⟨2 * bs, ys, by omega, rfl, by go_num, Hs.out⟩
        · go_wp2_with fail
          refine bodyPost_end (results_none rfl _ _ _) rfl ?_
          exact ⟨rfl, _, Hr.out⟩
theorem sstable_any (S : SC) (k : S.Ok) (W : World) (xs : List Int) (h : S.At W xs) :
    Calls Try.prog 29 #[.slice (some ⟨S.b, 0, none⟩) S.n S.n, .func (.func 30) #[] #[.pointer (some ⟨S.p, 0, none⟩)]] W fun e w' => e = .returned (.tuple #[]) ∧ ∃ ys, S.At w' ys := by
  have HC := Lib.hid (stable_any S k W xs h 0 rfl)
  clear h k
  go_enter Try.func29, Try.ntmps29
  go_wp2_with fail
  refine HC.out.mono ?_
  rintro e w1 ⟨rfl, hs⟩
  have Hs := Lib.hid hs
  clear hs
  go_wp2_with fail
  refine bodyPost_end (results_none rfl _ _ _) rfl ?_
  exact ⟨rfl, Hs.out⟩
end Go.Proofs.Ytlgiponfcmeiiaa
