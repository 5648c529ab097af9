/- The walk of the closure that goes along two chains of joins till they meet. -/
import Derived.Test.YtnnhlnefhndpdaaPlain7
import Derived.Test.YtnnhlnefhndpdaaWalkK
namespace Go.Proofs.Ytnnhlnefhndpdaa
open Go.RowKit

/-- Where a chain stands: nowhere, or at a place from lo on. -/
def Spot (lo n : Nat) (a : Int) : Prop := a = -1 ∨ ∃ k : Nat, a = k ∧ lo ≤ k ∧ k < n
/-- How far a chain may still go. -/
def left (n : Nat) (a : Int) : Nat := (n - a).toNat + (if a = -1 then 0 else n + 1)

theorem jn_spot {F : Fn} {rs : List Bool} {lo k : Nat} (ha : F.ahead = true) (hk : lo ≤ k) : Spot lo F.code.length (jn F rs k) := by
  rcases jn_range F rs k with h | ⟨j, h, hj⟩
  · exact .inl h
  · have := (jn_strict h).1.lt ha
    exact .inr ⟨j, h, by omega, hj⟩
theorem jn_left {F : Fn} {rs : List Bool} {k : Nat} (ha : F.ahead = true) (hk : k < F.code.length) : left F.code.length (jn F rs k) < left F.code.length k := by
  unfold left
  rcases jn_range F rs k with h | ⟨j, h, hj⟩
  · rw [h]
    simp only [if_true]
    rw [if_neg (by omega)]
    omega
  · have := (jn_strict h).1.lt ha
    rw [h, if_neg (by omega), if_neg (by omega)]
    omega

set_option maxHeartbeats 2000000 in
theorem meet_any (F : Fn) (rs : List Bool) (l : List Int) (lo Bs Bl : Nat) (a0 b0 : Int) (w : World) (ha : F.ahead = true) (hl : l.length = F.code.length) (hj : ∀ k : Nat, lo ≤ k → k < F.code.length → l.getD k 0 = jn F rs k)
    (hs : IntsBk w Bs l) (hbl : Bk w Bl 32 #[.slice (some ⟨Bs, 0, none⟩) F.code.length F.code.length]) (h1 : Spot lo F.code.length a0) (h2 : Spot lo F.code.length b0) :
    Calls Try.prog 65 #[.int .i64 a0, .int .i64 b0, .pointer (some ⟨Bl, 0, none⟩)] w fun e w' => e = .returned (.int .i64 (meetF F rs a0 b0)) ∧ w' = w := by
  have hc0 := hbl.c0
  go_enter Try.func65, Try.ntmps65
  go_wp2
  go_loopg [0, 1] (left F.code.length a0 + left F.code.length b0) (fun g s t wr => ∃ a b : Int, g = left F.code.length a + left F.code.length b ∧ s = .int .i64 a ∧ t = .int .i64 b ∧ Spot lo F.code.length a ∧ Spot lo F.code.length b ∧ Hid (meetF F rs a b = meetF F rs a0 b0) ∧ wr = w)
  case atStart => exact ⟨a0, b0, rfl, rfl, rfl, h1, h2, rfl, rfl⟩
  case round =>
    clear h1 h2
    obtain ⟨a, b, rfl, rfl, rfl, h1, h2, HM, rfl⟩ := hrel
    by_cases hab : a = b
    · subst hab
      have hne : (a != a) = false := by simp
      have hm : meetF F rs a a = a := by
        rcases h1 with rfl | ⟨k, rfl, _, hk⟩
        · exact meetF_neg_left
        · exact meetF_same ha hk
      have H2 := Lib.hid hm
      clear hm h1 h2
      go_wp2
      go_ret
      exact ⟨ret_int (by rw [← HM.out, H2.out]), rfl⟩
    · have hne : (a != b) = true := by simpa using hab
      rcases h1 with rfl | ⟨k, rfl, hk1, hk2⟩
      · have hm : meetF F rs (-1) b = -1 := meetF_neg_left
        have H2 := Lib.hid hm
        clear hm h2 hab
        go_wp2
        go_ret
        exact ⟨ret_int (by rw [← HM.out, H2.out]), rfl⟩
      · have ha1 : ((k : Int) != -1) = true := by simp
        rcases h2 with rfl | ⟨m, rfl, hm1, hm2⟩
        · have hm : meetF F rs k (-1) = -1 := meetF_neg_right
          have H2 := Lib.hid hm
          clear hm hab
          go_wp2
          go_ret
          exact ⟨ret_int (by rw [← HM.out, H2.out]), rfl⟩
        · have hb1 : ((m : Int) != -1) = true := by simp
          by_cases hlt : k < m
          · have hcell := ints_at hs (show k < l.length by omega)
            rw [hj k hk1 hk2] at hcell
            have hix := ix32 (A := some ⟨Bs, 0, none⟩) rfl hk2 F.code.length
            have H2 := Lib.hid (meetF_left (rs := rs) ha (show (k : Int) < m by omega))
            have H3 := Lib.hid (jn_spot (rs := rs) ha hk1)
            have H4 := jn_left (rs := rs) ha hk2
            clear hab hj hs
            simp only [Nat.zero_add] at hix
            go_wp2
            go_roundg (left F.code.length (jn F rs k) + left F.code.length m)
            case measure => omega
            case rel => exact ⟨_, _, rfl, rfl, rfl, H3.out, .inr ⟨m, rfl, hm1, hm2⟩, Lib.hid (by rw [← HM.out, H2.out]), rfl⟩
          · have hgt : m < k := by omega
            have hcell := ints_at hs (show m < l.length by omega)
            rw [hj m hm1 hm2] at hcell
            have hix := ix32 (A := some ⟨Bs, 0, none⟩) rfl hm2 F.code.length
            have H2 := Lib.hid (meetF_right (rs := rs) ha (show (m : Int) < k by omega))
            have H3 := Lib.hid (jn_spot (rs := rs) ha hm1)
            have H4 := jn_left (rs := rs) ha hm2
            clear hab hj hs
            simp only [Nat.zero_add] at hix
            go_wp2
            go_roundg (left F.code.length k + left F.code.length (jn F rs m))
            case measure => omega
            case rel => exact ⟨_, _, rfl, rfl, rfl, .inr ⟨k, rfl, hk1, hk2⟩, H3.out, Lib.hid (by rw [← HM.out, H2.out]), rfl⟩
end Go.Proofs.Ytnnhlnefhndpdaa
