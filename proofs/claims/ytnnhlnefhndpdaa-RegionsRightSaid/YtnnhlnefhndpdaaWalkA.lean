/- The walks of flow's small functions. -/
import Derived.Test.YtnnhlnefhndpdaaBox
namespace Go.Proofs.Ytnnhlnefhndpdaa
open Go.RowKit

set_option maxHeartbeats 400000 in
theorem op_in (x : FX) (F : Fn) (k : Nat) (w : World) (hF : FnAt w x F) (h1 : k < F.code.length) :
    Calls Try.prog 38 #[x.val F, .int .i64 k] w fun e w' => e = .returned (.int .i64 (F.op k)) ∧ Below w.heap.size w w' := by
  obtain ⟨B, off, c2, c3, c4, c5, c6, hC, hB, ho, -⟩ := hF.code_at h1
  have e1 : F.op k = (F.code.getD k (0, 0)).1 := by rw [Fn.op_place (by omega) (by omega)]; simp
  rw [e1]
  generalize (F.code.getD k (0, 0)).1 = o at *
  clear e1 hF
  go_enter Try.func38, Try.ntmps38
  go_wp2
  go_ret
  exact ⟨rfl, (Below.refl _ _).alloc (Nat.le_refl _) _⟩

set_option maxHeartbeats 400000 in
theorem op_out (x : FX) (F : Fn) (a : Int) (w : World) (h : a < 0 ∨ (F.code.length : Int) ≤ a) :
    Calls Try.prog 38 #[x.val F, .int .i64 a] w fun e w' => e = .returned (.int .i64 (F.op a)) ∧ Below w.heap.size w w' := by
  rw [Fn.op_none h]
  rcases h with h | h
  · go_enter Try.func38, Try.ntmps38
    go_wp2
    go_ret
    exact ⟨rfl, (Below.refl _ _).alloc (Nat.le_refl _) _⟩
  · go_enter Try.func38, Try.ntmps38
    go_wp2
    go_ret
    exact ⟨rfl, (Below.refl _ _).alloc (Nat.le_refl _) _⟩

theorem op_any (x : FX) (F : Fn) (a : Int) (w : World) (hF : FnAt w x F) :
    Calls Try.prog 38 #[x.val F, .int .i64 a] w fun e w' => e = .returned (.int .i64 (F.op a)) ∧ Below w.heap.size w w' := by
  by_cases h : a < 0 ∨ (F.code.length : Int) ≤ a
  · exact op_out x F a w h
  · obtain ⟨k, rfl⟩ := Int.eq_ofNat_of_zero_le (show 0 ≤ a by omega)
    exact op_in x F k w hF (by omega)

set_option maxHeartbeats 1000000 in
theorem handler_any (x : FX) (F : Fn) (a : Int) (w : World) (hF : FnAt w x F) (hm : F.hs.length ≤ 1000) :
    Calls Try.prog 40 #[x.val F, .int .i64 a] w fun e w' => e = .returned (.int .i64 (F.handler a)) ∧ Below w.heap.size w w' := by
  go_enter Try.func40, Try.ntmps40
  go_wp2
  go_loopg [10] F.hs.length (fun g i wr => ∃ k : Nat, k ≤ F.hs.length ∧ g = F.hs.length - k ∧ i = .int .i64 k ∧ handFrom (F.hs.drop k) a = F.handler a ∧ Below w.heap.size w wr)
  case atStart => exact ⟨0, Nat.zero_le _, rfl, rfl, rfl, (Below.refl _ _).alloc (Nat.le_refl _) _⟩
  case round =>
    obtain ⟨k, hk, rfl, rfl, hd, hb⟩ := hrel
    by_cases hlt : k < F.hs.length
    · obtain ⟨B, off, hH, hB, h0, h1, h2⟩ := hF.hand_at hlt
      have hix := ix26 hH hlt x.hc
      clear hH
      rw [handFrom_drop hlt] at hd
      generalize (F.hs.getD k (0, 0, 0)) = q at *
      obtain ⟨f, t, b⟩ := q
      have HD := Lib.hid hd
      clear hd
      have hc := cells_of hb
      have HB := Lib.hid hb
      clear hb
      go_wp2
      · go_ret
        have hq : f ≤ a ∧ a < t := ⟨by assumption, by assumption⟩
        refine ⟨ret_int ?_, HB.out.alloc HB.out.size _⟩
        have e := HD.out
        rw [if_pos hq] at e
        exact e
      all_goals
        have hq : ¬ (f ≤ a ∧ a < t) := by omega
        go_roundg (F.hs.length - (k + 1))
        case measure => omega
        case rel =>
          have e := HD.out
          rw [if_neg hq] at e
          exact ⟨k + 1, by omega, rfl, by go_num, e, HB.out.alloc HB.out.size _⟩
    · have hd' : handFrom [] a = F.handler a := by rw [← hd, List.drop_of_length_le (by omega)]
      have HD := Lib.hid hd'
      clear hd hd'
      have HB := Lib.hid hb
      clear hb
      go_wp2
      go_ret
      exact ⟨ret_int HD.out, HB.out⟩
end Go.Proofs.Ytnnhlnefhndpdaa
