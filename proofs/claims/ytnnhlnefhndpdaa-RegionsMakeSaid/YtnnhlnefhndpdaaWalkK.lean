/- The walks of the two functions that tell whether all ways go ahead: regions' and the reference's. -/
import Derived.Test.YtnnhlnefhndpdaaWalkJ
import Derived.Test.YtnnhlnefhndpdaaOne
namespace Go.Proofs.Ytnnhlnefhndpdaa
open Go.RowKit

/-- A jump that doesn't go ahead. -/
def Fn.jumpB (F : Fn) (k : Nat) : Bool := (F.op k == 24 || F.op k == 25) && decide (F.arg k ≤ k)
def Fn.aheadTo (F : Fn) (k : Nat) : Bool := (List.range k).all fun i => !F.jumpB i

theorem Fn.ahead_eq {F : Fn} (hn : F.code.length ≤ 1000) : F.ahead = (F.aheadTo F.code.length && !F.hs.any backH) := by
  unfold Fn.ahead Fn.aheadTo
  rw [decide_eq_true (show F.code.length ≤ 2000 by omega), Bool.true_and, List.not_any_eq_all_not]
  rfl
theorem Fn.aheadTo_succ {F : Fn} {k : Nat} : F.aheadTo (k + 1) = (F.aheadTo k && !F.jumpB k) := by
  unfold Fn.aheadTo
  rw [List.range_succ, List.all_append]
  simp
theorem Fn.ahead_jump {F : Fn} {k : Nat} (hn : F.code.length ≤ 1000) (hk : k < F.code.length) (h : ((F.op k == 24 || F.op k == 25) && decide (F.arg k ≤ k)) = true) : F.ahead = false := by
  rw [Fn.ahead_eq hn]
  have : F.aheadTo F.code.length = false := by
    unfold Fn.aheadTo
    rw [List.all_eq_false]
    exact ⟨k, List.mem_range.2 hk, by unfold Fn.jumpB; rw [h]; simp⟩
  rw [this]
  rfl
theorem Fn.aheadTo_next {F : Fn} {k : Nat} (hk : F.aheadTo k = true) (h : ((F.op k == 24 || F.op k == 25) && decide (F.arg k ≤ k)) = false) : F.aheadTo (k + 1) = true := by
  rw [Fn.aheadTo_succ, hk]
  unfold Fn.jumpB
  rw [h]
  rfl
theorem Fn.ahead_back {F : Fn} {k : Nat} (hn : F.code.length ≤ 1000) (hk : k < F.hs.length) (h : backH (F.hs.getD k (0, 0, 0)) = true) : F.ahead = false := by
  rw [Fn.ahead_eq hn, any_of_at _ _ hk h]
  simp

theorem int_one (k : IntKind) (z : Int) : (Value.int k z).oneCell' = true := rfl
theorem all7 {o a : Int} {c2 c3 c4 c5 c6 : Value} (g2 : c2.oneCell' = true) (g3 : c3.oneCell' = true) (g4 : c4.oneCell' = true) (g5 : c5.oneCell' = true) (g6 : c6.oneCell' = true) :
    (#[.int .i64 o, .int .i64 a, c2, c3, c4, c5, c6] : Array Value).all (·.oneCell') = true := by
  simp [g2, g3, g4, g5, g6, int_one]

set_option maxHeartbeats 2000000 in
theorem ahead_any (x : FX) (F : Fn) (R : Option Addr) (r rc : Nat) (w : World) (hF : FnX w x F) (hm : F.hs.length ≤ 1000) (hn : F.code.length ≤ 1000) :
    Calls Try.prog 44 #[x.val F, .slice R r rc] w fun e w' => e = .returned (.bool F.ahead) ∧ Below w.heap.size w w' := by
  go_enter Try.func44, Try.ntmps44
  go_wp2_with (first | go_skip | ((with_reducible refine at_box 30 rfl ?_); refine bx30 _ rfl x F rfl rfl ?_; intro w1 hbx hb1 hs1; have st := St.new hbx hb1; have ho := st.old; have h14 := st.c14; have h15 := st.c15; clear hbx hb1 hs1))
  go_loopg [5, 14] F.code.length (fun gg _ s wr => ∃ k : Nat, k ≤ F.code.length ∧ gg = F.code.length - k ∧ s = .int .i64 k ∧ Hid (F.aheadTo k = true) ∧ St w wr w.heap.size x F)
  case atStart => exact ⟨0, Nat.zero_le _, rfl, rfl, rfl, st⟩
  case round =>
    obtain ⟨k, hk, rfl, rfl, HD, st⟩ := hrel
    have ho := st.old
    have h14 := st.c14
    have h15 := st.c15
    by_cases hlt : k < F.code.length
    · obtain ⟨B, off, c2, c3, c4, c5, c6, hC, hB, ho0, ha0, hr2, hr3, hr4, hr5, hr6, g2, g3, g4, g5, g6⟩ := hF.code_at hlt
      have hix := ix25 hC hlt x.cc
      have hyes := @Fn.ahead_jump F k hn hlt
      have hnext := Fn.aheadTo_next HD.out
      rw [← Fn.op_nat hlt] at ho0
      rw [← Fn.arg_nat] at ha0
      clear hC
      generalize F.op k = o at *
      generalize F.arg k = a at *
      have Hyes := Lib.hid hyes
      have Hnext := Lib.hid hnext
      clear hyes hnext
      have G : Hid ((#[.int .i64 o, .int .i64 a, c2, c3, c4, c5, c6] : Array Value).all (·.oneCell') = true) := by
        exact all7 g2 g3 g4 g5 g6
      clear g2 g3 g4 g5 g6
      have hxl := st.bx.lt
      by_cases h24 : (o == 24) = true
      · by_cases hle : a ≤ k
        · go_wp2_with (first | go_skip | ((with_reducible refine at_alloc 54 rfl ?_); refine al54 rfl rfl ?_; intro w3 hins hb3 hs3; have st := St.next (by assumption) hb3; clear hb3) | ((with_reducible refine at_store 54 rfl ?_); refine wp_storebox 54 _ _ rfl rfl _ #[.int .i64 o, .int .i64 a, c2, c3, c4, c5, c6] rfl rfl hins (by kernel_rfl) rfl G.out ?_; intro w4 hins hb4 hs4 hk4; have st := St.low (by assumption) hb4 (by omega); have i0 := (hins.cell 0).trans rfl; have i1 := (hins.cell 1).trans rfl; clear hb4))
          go_ret
          refine ⟨ret_bool (Hyes.out ?_).symm, st.hb⟩
          simp only [h24, Bool.true_or, Bool.true_and]
          simpa using hle
        · go_wp2_with (first | go_skip | ((with_reducible refine at_alloc 54 rfl ?_); refine al54 rfl rfl ?_; intro w3 hins hb3 hs3; have st := St.next (by assumption) hb3; clear hb3) | ((with_reducible refine at_store 54 rfl ?_); refine wp_storebox 54 _ _ rfl rfl _ #[.int .i64 o, .int .i64 a, c2, c3, c4, c5, c6] rfl rfl hins (by kernel_rfl) rfl G.out ?_; intro w4 hins hb4 hs4 hk4; have st := St.low (by assumption) hb4 (by omega); have i0 := (hins.cell 0).trans rfl; have i1 := (hins.cell 1).trans rfl; clear hb4))
          go_roundg (F.code.length - (k + 1))
          case measure => omega
          case rel => exact ⟨k + 1, by omega, rfl, by go_num, Lib.hid (Hnext.out (by simp only [h24, Bool.true_or, Bool.true_and]; simpa using hle)), st⟩
      · have h24 : (o == 24) = false := by simpa using h24
        by_cases h25 : (o == 25) = true
        · by_cases hle : a ≤ k
          · go_wp2_with (first | go_skip | ((with_reducible refine at_alloc 54 rfl ?_); refine al54 rfl rfl ?_; intro w3 hins hb3 hs3; have st := St.next (by assumption) hb3; clear hb3) | ((with_reducible refine at_store 54 rfl ?_); refine wp_storebox 54 _ _ rfl rfl _ #[.int .i64 o, .int .i64 a, c2, c3, c4, c5, c6] rfl rfl hins (by kernel_rfl) rfl G.out ?_; intro w4 hins hb4 hs4 hk4; have st := St.low (by assumption) hb4 (by omega); have i0 := (hins.cell 0).trans rfl; have i1 := (hins.cell 1).trans rfl; clear hb4))
            go_ret
            refine ⟨ret_bool (Hyes.out ?_).symm, st.hb⟩
            simp only [h25, Bool.or_true, Bool.true_and]
            simpa using hle
          · go_wp2_with (first | go_skip | ((with_reducible refine at_alloc 54 rfl ?_); refine al54 rfl rfl ?_; intro w3 hins hb3 hs3; have st := St.next (by assumption) hb3; clear hb3) | ((with_reducible refine at_store 54 rfl ?_); refine wp_storebox 54 _ _ rfl rfl _ #[.int .i64 o, .int .i64 a, c2, c3, c4, c5, c6] rfl rfl hins (by kernel_rfl) rfl G.out ?_; intro w4 hins hb4 hs4 hk4; have st := St.low (by assumption) hb4 (by omega); have i0 := (hins.cell 0).trans rfl; have i1 := (hins.cell 1).trans rfl; clear hb4))
            go_roundg (F.code.length - (k + 1))
            case measure => omega
            case rel => exact ⟨k + 1, by omega, rfl, by go_num, Lib.hid (Hnext.out (by simp only [h25, Bool.or_true, Bool.true_and]; simpa using hle)), st⟩
        · have h25 : (o == 25) = false := by simpa using h25
          go_wp2_with (first | go_skip | ((with_reducible refine at_alloc 54 rfl ?_); refine al54 rfl rfl ?_; intro w3 hins hb3 hs3; have st := St.next (by assumption) hb3; clear hb3) | ((with_reducible refine at_store 54 rfl ?_); refine wp_storebox 54 _ _ rfl rfl _ #[.int .i64 o, .int .i64 a, c2, c3, c4, c5, c6] rfl rfl hins (by kernel_rfl) rfl G.out ?_; intro w4 hins hb4 hs4 hk4; have st := St.low (by assumption) hb4 (by omega); have i0 := (hins.cell 0).trans rfl; have i1 := (hins.cell 1).trans rfl; clear hb4))
          go_roundg (F.code.length - (k + 1))
          case measure => omega
          case rel => exact ⟨k + 1, by omega, rfl, by go_num, Lib.hid (Hnext.out (by simp only [h24, h25, Bool.or_false, Bool.false_and])), st⟩
    · have ha : F.ahead = !F.hs.any backH := by
        rw [Fn.ahead_eq hn, show F.code.length = k by omega, HD.out]
        rfl
      have HA := Lib.hid ha
      clear ha
      go_wp2_with (go_at_call 61; refine (containsH_any x F _ (St.fn (by assumption) hF.fn) hm).mono ?_; rintro e wn ⟨rfl, hbn⟩)
      go_ret
      exact ⟨ret_bool HA.out.symm, (st.next hbn).hb⟩

set_option maxHeartbeats 2000000 in
theorem rahead_any (x : FX) (F : Fn) (w : World) (hF : FnAt w x F) (hm : F.hs.length ≤ 1000) (hn : F.code.length ≤ 1000) :
    Calls Try.prog 24 #[x.val F] w fun e w' => e = .returned (.bool F.ahead) ∧ Below w.heap.size w w' := by
  go_enter Try.func24, Try.ntmps24
  go_wp2_with (first | go_skip | ((with_reducible refine at_box 30 rfl ?_); refine bx30 _ rfl x F rfl rfl ?_; intro w1 hbx hb1 hs1; have st := St.new hbx hb1; have ho := st.old; have h14 := st.c14; have h15 := st.c15; clear hbx hb1 hs1))
  go_loopg [3, 4] F.code.length (fun gg s _ wr => ∃ k : Nat, k ≤ F.code.length ∧ gg = F.code.length - k ∧ s = .int .i64 k ∧ Hid (F.aheadTo k = true) ∧ St w wr w.heap.size x F)
  case atStart => exact ⟨0, Nat.zero_le _, rfl, rfl, rfl, st⟩
  case round =>
    obtain ⟨k, hk, rfl, rfl, HD, st⟩ := hrel
    have ho := st.old
    have h14 := st.c14
    have h15 := st.c15
    by_cases hlt : k < F.code.length
    · obtain ⟨B, off, c2, c3, c4, c5, c6, hC, hB, ho0, ha0, hr0⟩ := hF.code_at hlt
      have hix := ix25 hC hlt x.cc
      have hyes := @Fn.ahead_jump F k hn hlt
      have hnext := Fn.aheadTo_next HD.out
      rw [← Fn.op_nat hlt] at ho0
      rw [← Fn.arg_nat] at ha0
      clear hC
      generalize F.op k = o at *
      generalize F.arg k = a at *
      have Hyes := Lib.hid hyes
      have Hnext := Lib.hid hnext
      clear hyes hnext
      by_cases h24 : (o == 24) = true
      · by_cases hle : a ≤ k
        · go_wp2
          go_ret
          refine ⟨ret_bool (Hyes.out ?_).symm, st.hb⟩
          simp only [h24, Bool.true_or, Bool.true_and]
          simpa using hle
        · go_wp2
          go_roundg (F.code.length - (k + 1))
          case measure => omega
          case rel => exact ⟨k + 1, by omega, rfl, by go_num, Lib.hid (Hnext.out (by simp only [h24, Bool.true_or, Bool.true_and]; simpa using hle)), st⟩
      · have h24 : (o == 24) = false := by simpa using h24
        by_cases h25 : (o == 25) = true
        · by_cases hle : a ≤ k
          · go_wp2
            go_ret
            refine ⟨ret_bool (Hyes.out ?_).symm, st.hb⟩
            simp only [h25, Bool.or_true, Bool.true_and]
            simpa using hle
          · go_wp2
            go_roundg (F.code.length - (k + 1))
            case measure => omega
            case rel => exact ⟨k + 1, by omega, rfl, by go_num, Lib.hid (Hnext.out (by simp only [h25, Bool.or_true, Bool.true_and]; simpa using hle)), st⟩
        · have h25 : (o == 25) = false := by simpa using h25
          go_wp2
          go_roundg (F.code.length - (k + 1))
          case measure => omega
          case rel => exact ⟨k + 1, by omega, rfl, by go_num, Lib.hid (Hnext.out (by simp only [h24, h25, Bool.or_false, Bool.false_and])), st⟩
    · have ha : F.ahead = !F.hs.any backH := by
        rw [Fn.ahead_eq hn, show F.code.length = k by omega, HD.out]
        rfl
      have HA := Lib.hid ha
      clear ha HD
      go_wp2
      go_loopg [5] F.hs.length (fun gg s wr => ∃ k : Nat, k ≤ F.hs.length ∧ gg = F.hs.length - k ∧ s = .int .i64 k ∧ Hid ((F.hs.take k).any backH = false) ∧ St w wr w.heap.size x F)
      case atStart => exact ⟨0, Nat.zero_le _, rfl, rfl, rfl, st⟩
      case round =>
        clear st ho h14 h15 hlt hk
        obtain ⟨k, hk, rfl, rfl, HD, st⟩ := hrel
        have ho := st.old
        have h14 := st.c14
        have h15 := st.c15
        by_cases hlt : k < F.hs.length
        · obtain ⟨B, off, hH, hB, h0, h1, h2⟩ := hF.hand_at hlt
          have hix := ix26 hH hlt x.hc
          have hyes := @Fn.ahead_back F k hn hlt
          have hs := any_take_succ (0, 0, 0) backH hlt
          clear hH
          generalize (F.hs.getD k (0, 0, 0)) = q at *
          obtain ⟨f, t, b⟩ := q
          have Hs := Lib.hid hs
          have Hyes := Lib.hid hyes
          clear hs hyes
          by_cases hq : b < t
          · go_wp2
            go_quiet (fail)
            go_wp2
            go_ret
            exact ⟨ret_bool (Hyes.out (decide_eq_true hq)).symm, (st.drewN _).hb⟩
          · go_wp2
            go_quiet (fail)
            go_wp2
            go_roundg (F.hs.length - (k + 1))
            case measure => omega
            case rel => exact ⟨k + 1, by omega, rfl, by go_num, Lib.hid (by rw [Hs.out, HD.out]; exact decide_eq_false (Int.not_lt.2 hq)), st.drewN _⟩
        · have hm : F.hs.any backH = false := by
            have := HD.out
            rwa [List.take_of_length_le (by omega)] at this
          rw [hm] at HA
          clear hm
          go_wp2
          go_ret
          exact ⟨ret_bool (by rw [HA.out]; simp; omega), st.hb⟩
end Go.Proofs.Ytnnhlnefhndpdaa
