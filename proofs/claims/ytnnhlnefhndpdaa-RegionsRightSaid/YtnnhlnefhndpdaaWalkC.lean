/- The walks of the reference's small functions (places, what raises, handlers, what leaves, what branches, ways one by one), of In, SameInts and few. -/
import Derived.Test.YtnnhlnefhndpdaaWalkA
namespace Go.Proofs.Ytnnhlnefhndpdaa
open Go.RowKit

set_option maxHeartbeats 1000000 in
theorem place_any (x : FX) (F : Fn) (a : Int) (w : World) :
    Calls Try.prog 35 #[x.val F, .int .i64 a] w fun e w' => e = .returned (.bool (F.place a)) ∧ Below w.heap.size w w' := by
  unfold Fn.place
  by_cases h : 0 ≤ a
  · rw [show decide (0 ≤ a) = true by simpa using h]
    go_enter Try.func35, Try.ntmps35
    go_wp2_with (first | go_skip | ((with_reducible refine at_box 30 rfl ?_); refine bx30 _ rfl x F rfl rfl ?_; intro w1 hbx hb1 hs1; have st := St.new hbx hb1; have ho := st.old; have h14 := st.c14; have h15 := st.c15; clear hbx hb1 hs1))
    go_ret
    exact ⟨ret_bool (by simp), st.hb⟩
  · rw [show decide (0 ≤ a) = false by simpa using h]
    go_enter Try.func35, Try.ntmps35
    go_wp2_with (first | go_skip | ((with_reducible refine at_box 30 rfl ?_); refine bx30 _ rfl x F rfl rfl ?_; intro w1 hbx hb1 hs1; have st := St.new hbx hb1; have ho := st.old; have h14 := st.c14; have h15 := st.c15; clear hbx hb1 hs1))
    go_ret
    exact ⟨ret_bool (by simp), st.hb⟩

set_option maxHeartbeats 1000000 in
theorem rraises_any (x : FX) (F : Fn) (R : Option Addr) (rs : List Bool) (rc : Nat) (a : Int) (w : World) (hF : FnAt w x F) (hR : Row w 0 R (boolsV rs)) :
    Calls Try.prog 57 #[x.val F, .slice R rs.length rc, .int .i64 a] w fun e w' => e = .returned (.bool (F.raises rs a)) ∧ Below w.heap.size w w' := by
  by_cases hp : F.place a = true
  · obtain ⟨k, rfl, hk⟩ := Fn.place_nat hp
    obtain ⟨B, off, c2, c3, c4, c5, c6, hC, hB, ho, -⟩ := hF.code_at hk
    have hix := ix25 hC hk x.cc
    rw [← Fn.op_nat hk] at ho
    unfold Fn.raises
    generalize F.op k = o at *
    clear hC hF
    by_cases h19 : o = 19
    · subst h19
      by_cases hr : k < rs.length
      · obtain ⟨B', off', hA, -, hlt, hc⟩ := hR.bool_at hr
        have hix' := ix31 hA hr rc
        have et : tells rs k = rs.getD k false := by simp [tells, hr]
        rw [et]
        generalize rs.getD k false = b at *
        clear hA et
        go_enter Try.func57, Try.ntmps57
        go_wp2_with (first | go_skip | ((with_reducible refine at_box 30 rfl ?_); refine bx30 _ rfl x F rfl rfl ?_; intro w1 hbx hb1 hs1; have st := St.new hbx hb1; have ho := st.old; have h14 := st.c14; have h15 := st.c15; clear hbx hb1 hs1) | ((with_reducible refine at_load 30 rfl ?_); refine ld30 _ rfl _ rfl x F (St.bx (by assumption)) rfl ?_) | (go_at_call 35; refine (place_any x F _ _).mono ?_; rintro e wn ⟨rfl, hbn⟩; have st := St.next (by assumption) hbn; have ho := st.old; have h14 := st.c14; have h15 := st.c15; clear hbn))
        go_ret
        exact ⟨ret_bool (by simp), st.hb⟩
      · have et : tells rs k = false := by simp [tells, hr]
        rw [et]
        clear et
        go_enter Try.func57, Try.ntmps57
        go_wp2_with (first | go_skip | ((with_reducible refine at_box 30 rfl ?_); refine bx30 _ rfl x F rfl rfl ?_; intro w1 hbx hb1 hs1; have st := St.new hbx hb1; have ho := st.old; have h14 := st.c14; have h15 := st.c15; clear hbx hb1 hs1) | ((with_reducible refine at_load 30 rfl ?_); refine ld30 _ rfl _ rfl x F (St.bx (by assumption)) rfl ?_) | (go_at_call 35; refine (place_any x F _ _).mono ?_; rintro e wn ⟨rfl, hbn⟩; have st := St.next (by assumption) hbn; have ho := st.old; have h14 := st.c14; have h15 := st.c15; clear hbn))
        go_ret
        exact ⟨ret_bool (by simp), st.hb⟩
    · have h19 : (o == 19) = false := by simpa using h19
      rw [h19]
      by_cases h9 : (o == 9) = true
      · go_enter Try.func57, Try.ntmps57
        go_wp2_with (first | go_skip | ((with_reducible refine at_box 30 rfl ?_); refine bx30 _ rfl x F rfl rfl ?_; intro w1 hbx hb1 hs1; have st := St.new hbx hb1; have ho := st.old; have h14 := st.c14; have h15 := st.c15; clear hbx hb1 hs1) | ((with_reducible refine at_load 30 rfl ?_); refine ld30 _ rfl _ rfl x F (St.bx (by assumption)) rfl ?_) | (go_at_call 35; refine (place_any x F _ _).mono ?_; rintro e wn ⟨rfl, hbn⟩; have st := St.next (by assumption) hbn; have ho := st.old; have h14 := st.c14; have h15 := st.c15; clear hbn))
        go_ret
        exact ⟨ret_bool (by simp [h9]), st.hb⟩
      · have h9 : (o == 9) = false := by simpa using h9
        rw [h9]
        by_cases h10 : (o == 10) = true
        · go_enter Try.func57, Try.ntmps57
          go_wp2_with (first | go_skip | ((with_reducible refine at_box 30 rfl ?_); refine bx30 _ rfl x F rfl rfl ?_; intro w1 hbx hb1 hs1; have st := St.new hbx hb1; have ho := st.old; have h14 := st.c14; have h15 := st.c15; clear hbx hb1 hs1) | ((with_reducible refine at_load 30 rfl ?_); refine ld30 _ rfl _ rfl x F (St.bx (by assumption)) rfl ?_) | (go_at_call 35; refine (place_any x F _ _).mono ?_; rintro e wn ⟨rfl, hbn⟩; have st := St.next (by assumption) hbn; have ho := st.old; have h14 := st.c14; have h15 := st.c15; clear hbn))
          go_ret
          exact ⟨ret_bool (by simp [h10]), st.hb⟩
        · have h10 : (o == 10) = false := by simpa using h10
          rw [h10]
          by_cases h26 : (o == 26) = true
          · go_enter Try.func57, Try.ntmps57
            go_wp2_with (first | go_skip | ((with_reducible refine at_box 30 rfl ?_); refine bx30 _ rfl x F rfl rfl ?_; intro w1 hbx hb1 hs1; have st := St.new hbx hb1; have ho := st.old; have h14 := st.c14; have h15 := st.c15; clear hbx hb1 hs1) | ((with_reducible refine at_load 30 rfl ?_); refine ld30 _ rfl _ rfl x F (St.bx (by assumption)) rfl ?_) | (go_at_call 35; refine (place_any x F _ _).mono ?_; rintro e wn ⟨rfl, hbn⟩; have st := St.next (by assumption) hbn; have ho := st.old; have h14 := st.c14; have h15 := st.c15; clear hbn))
            go_ret
            exact ⟨ret_bool (by simp [h26]), st.hb⟩
          · have h26 : (o == 26) = false := by simpa using h26
            rw [h26]
            go_enter Try.func57, Try.ntmps57
            go_wp2_with (first | go_skip | ((with_reducible refine at_box 30 rfl ?_); refine bx30 _ rfl x F rfl rfl ?_; intro w1 hbx hb1 hs1; have st := St.new hbx hb1; have ho := st.old; have h14 := st.c14; have h15 := st.c15; clear hbx hb1 hs1) | ((with_reducible refine at_load 30 rfl ?_); refine ld30 _ rfl _ rfl x F (St.bx (by assumption)) rfl ?_) | (go_at_call 35; refine (place_any x F _ _).mono ?_; rintro e wn ⟨rfl, hbn⟩; have st := St.next (by assumption) hbn; have ho := st.old; have h14 := st.c14; have h15 := st.c15; clear hbn))
            go_ret
            exact ⟨ret_bool (by simp), st.hb⟩
  · have hp : F.place a = false := by simpa using hp
    rw [Fn.raises_out rs hp]
    go_enter Try.func57, Try.ntmps57
    go_wp2_with (first | go_skip | ((with_reducible refine at_box 30 rfl ?_); refine bx30 _ rfl x F rfl rfl ?_; intro w1 hbx hb1 hs1; have st := St.new hbx hb1; have ho := st.old; have h14 := st.c14; have h15 := st.c15; clear hbx hb1 hs1) | ((with_reducible refine at_load 30 rfl ?_); refine ld30 _ rfl _ rfl x F (St.bx (by assumption)) rfl ?_) | (go_at_call 35; refine (place_any x F _ _).mono ?_; rintro e wn ⟨rfl, hbn⟩; have st := St.next (by assumption) hbn; have ho := st.old; have h14 := st.c14; have h15 := st.c15; clear hbn))
    go_ret
    exact ⟨ret_bool (by simp), st.hb⟩

set_option maxHeartbeats 1000000 in
theorem rhandler_any (x : FX) (F : Fn) (a : Int) (w : World) (hF : FnAt w x F) (hm : F.hs.length ≤ 1000) :
    Calls Try.prog 58 #[x.val F, .int .i64 a] w fun e w' => e = .returned (.int .i64 (F.handler a)) ∧ Below w.heap.size w w' := by
  go_enter Try.func58, Try.ntmps58
  go_wp2_with (first | go_skip | ((with_reducible refine at_box 30 rfl ?_); refine bx30 _ rfl x F rfl rfl ?_; intro w1 hbx hb1 hs1; have st := St.new hbx hb1; have ho := st.old; have h14 := st.c14; have h15 := st.c15; clear hbx hb1 hs1))
  go_loopg [5] F.hs.length (fun g i wr => ∃ k : Nat, k ≤ F.hs.length ∧ g = F.hs.length - k ∧ i = .int .i64 k ∧ handFrom (F.hs.drop k) a = F.handler a ∧ St w wr w.heap.size x F)
  case atStart => exact ⟨0, Nat.zero_le _, rfl, rfl, rfl, st⟩
  case round =>
    obtain ⟨k, hk, rfl, rfl, hd, st⟩ := hrel
    have ho := st.old
    have h14 := st.c14
    have h15 := st.c15
    by_cases hlt : k < F.hs.length
    · obtain ⟨B, off, hH, hB, h0, h1, h2⟩ := hF.hand_at hlt
      have hix := ix26 hH hlt x.hc
      clear hH
      rw [handFrom_drop hlt] at hd
      generalize (F.hs.getD k (0, 0, 0)) = q at *
      obtain ⟨f, t, b⟩ := q
      have HD := Lib.hid hd
      clear hd
      by_cases hf : f ≤ a
      · by_cases ht : a < t
        · have e := HD.out
          rw [if_pos ⟨hf, ht⟩] at e
          have HE := Lib.hid e
          clear e
          go_wp2
          go_ret
          exact ⟨ret_int HE.out, st.hb⟩
        · have e := HD.out
          rw [if_neg (fun h => ht h.2)] at e
          have HE := Lib.hid e
          clear e
          go_wp2
          go_roundg (F.hs.length - (k + 1))
          case measure => omega
          case rel => exact ⟨k + 1, by omega, rfl, by go_num, HE.out, st⟩
      · have e := HD.out
        rw [if_neg (fun h => hf h.1)] at e
        have HE := Lib.hid e
        clear e
        go_wp2
        go_roundg (F.hs.length - (k + 1))
        case measure => omega
        case rel => exact ⟨k + 1, by omega, rfl, by go_num, HE.out, st⟩
    · have hd' : handFrom [] a = F.handler a := by rw [← hd, List.drop_of_length_le (by omega)]
      have HD := Lib.hid hd'
      clear hd hd'
      go_wp2
      go_ret
      exact ⟨ret_int HD.out, st.hb⟩

set_option maxHeartbeats 1000000 in
theorem rleaves_any (x : FX) (F : Fn) (R : Option Addr) (rs : List Bool) (rc : Nat) (a : Int) (w : World) (hF : FnAt w x F) (hR : Row w 0 R (boolsV rs)) (hm : F.hs.length ≤ 1000) :
    Calls Try.prog 52 #[x.val F, .slice R rs.length rc, .int .i64 a] w fun e w' => e = .returned (.bool (F.leaves rs a)) ∧ Below w.heap.size w w' := by
  by_cases hp : F.place a = true
  · obtain ⟨k, rfl, hk⟩ := Fn.place_nat hp
    obtain ⟨B, off, c2, c3, c4, c5, c6, hC, hB, ho0, -⟩ := hF.code_at hk
    have hix := ix25 hC hk x.cc
    rw [← Fn.op_nat hk] at ho0
    unfold Fn.leaves
    clear hC
    by_cases h1 : (F.op k == 27) = true
    · rw [h1]
      go_enter Try.func52, Try.ntmps52
      go_wp2_with (first | go_skip | ((with_reducible refine at_box 30 rfl ?_); refine bx30 _ rfl x F rfl rfl ?_; intro w1 hbx hb1 hs1; have st := St.new hbx hb1; have ho := st.old; have h14 := st.c14; have h15 := st.c15; clear hbx hb1 hs1) | ((with_reducible refine at_load 30 rfl ?_); refine ld30 _ rfl _ rfl x F (St.bx (by assumption)) rfl ?_) | (go_at_call 35; refine (place_any x F _ _).mono ?_; rintro e wn ⟨rfl, hbn⟩; have st := St.next (by assumption) hbn; have ho := st.old; have h14 := st.c14; have h15 := st.c15; clear hbn))
      go_ret
      exact ⟨ret_bool (by simp), st.hb⟩
    · have h1 : (F.op k == 27) = false := by simpa using h1
      rw [h1]
      by_cases h2 : F.raises rs k = true
      · rw [h2]
        go_enter Try.func52, Try.ntmps52
        go_wp2_with (first | go_skip | ((with_reducible refine at_box 30 rfl ?_); refine bx30 _ rfl x F rfl rfl ?_; intro w1 hbx hb1 hs1; have st := St.new hbx hb1; have ho := st.old; have h14 := st.c14; have h15 := st.c15; clear hbx hb1 hs1) | ((with_reducible refine at_load 30 rfl ?_); refine ld30 _ rfl _ rfl x F (St.bx (by assumption)) rfl ?_) | (go_at_call 35; refine (place_any x F _ _).mono ?_; rintro e wn ⟨rfl, hbn⟩; have st := St.next (by assumption) hbn; have ho := st.old; have h14 := st.c14; have h15 := st.c15; clear hbn) | (go_at_call 57; refine (rraises_any x F R rs rc k _ (St.fn (by assumption) hF) (St.row (by assumption) hR)).mono ?_; rintro e wn ⟨rfl, hbn⟩; have st := St.next (by assumption) hbn; have ho := st.old; have h14 := st.c14; have h15 := st.c15; clear hbn) | (go_at_call 58; refine (rhandler_any x F k _ (St.fn (by assumption) hF) hm).mono ?_; rintro e wn ⟨rfl, hbn⟩; have st := St.next (by assumption) hbn; have ho := st.old; have h14 := st.c14; have h15 := st.c15; clear hbn))
        go_ret
        exact ⟨ret_bool (by simp), st.hb⟩
      · have h2 : F.raises rs k = false := by simpa using h2
        rw [h2]
        go_enter Try.func52, Try.ntmps52
        go_wp2_with (first | go_skip | ((with_reducible refine at_box 30 rfl ?_); refine bx30 _ rfl x F rfl rfl ?_; intro w1 hbx hb1 hs1; have st := St.new hbx hb1; have ho := st.old; have h14 := st.c14; have h15 := st.c15; clear hbx hb1 hs1) | ((with_reducible refine at_load 30 rfl ?_); refine ld30 _ rfl _ rfl x F (St.bx (by assumption)) rfl ?_) | (go_at_call 35; refine (place_any x F _ _).mono ?_; rintro e wn ⟨rfl, hbn⟩; have st := St.next (by assumption) hbn; have ho := st.old; have h14 := st.c14; have h15 := st.c15; clear hbn) | (go_at_call 57; refine (rraises_any x F R rs rc k _ (St.fn (by assumption) hF) (St.row (by assumption) hR)).mono ?_; rintro e wn ⟨rfl, hbn⟩; have st := St.next (by assumption) hbn; have ho := st.old; have h14 := st.c14; have h15 := st.c15; clear hbn) | (go_at_call 58; refine (rhandler_any x F k _ (St.fn (by assumption) hF) hm).mono ?_; rintro e wn ⟨rfl, hbn⟩; have st := St.next (by assumption) hbn; have ho := st.old; have h14 := st.c14; have h15 := st.c15; clear hbn))
        go_ret
        exact ⟨ret_bool (by simp), st.hb⟩
  · have hp : F.place a = false := by simpa using hp
    rw [Fn.leaves_out rs hp]
    go_enter Try.func52, Try.ntmps52
    go_wp2_with (first | go_skip | ((with_reducible refine at_box 30 rfl ?_); refine bx30 _ rfl x F rfl rfl ?_; intro w1 hbx hb1 hs1; have st := St.new hbx hb1; have ho := st.old; have h14 := st.c14; have h15 := st.c15; clear hbx hb1 hs1) | ((with_reducible refine at_load 30 rfl ?_); refine ld30 _ rfl _ rfl x F (St.bx (by assumption)) rfl ?_) | (go_at_call 35; refine (place_any x F _ _).mono ?_; rintro e wn ⟨rfl, hbn⟩; have st := St.next (by assumption) hbn; have ho := st.old; have h14 := st.c14; have h15 := st.c15; clear hbn))
    go_ret
    exact ⟨ret_bool (by simp), st.hb⟩

set_option maxHeartbeats 1000000 in
theorem rbranches_any (x : FX) (F : Fn) (R : Option Addr) (rs : List Bool) (rc : Nat) (a : Int) (w : World) (hF : FnAt w x F) (hR : Row w 0 R (boolsV rs)) :
    Calls Try.prog 56 #[x.val F, .slice R rs.length rc, .int .i64 a] w fun e w' => e = .returned (.bool (F.branches rs a)) ∧ Below w.heap.size w w' := by
  by_cases hp : F.place a = true
  · obtain ⟨k, rfl, hk⟩ := Fn.place_nat hp
    obtain ⟨B, off, c2, c3, c4, c5, c6, hC, hB, ho0, -⟩ := hF.code_at hk
    have hix := ix25 hC hk x.cc
    rw [← Fn.op_nat hk] at ho0
    unfold Fn.branches
    clear hC
    by_cases h1 : (F.op k == 25) = true
    · rw [h1]
      go_enter Try.func56, Try.ntmps56
      go_wp2_with (first | go_skip | ((with_reducible refine at_box 30 rfl ?_); refine bx30 _ rfl x F rfl rfl ?_; intro w1 hbx hb1 hs1; have st := St.new hbx hb1; have ho := st.old; have h14 := st.c14; have h15 := st.c15; clear hbx hb1 hs1) | ((with_reducible refine at_load 30 rfl ?_); refine ld30 _ rfl _ rfl x F (St.bx (by assumption)) rfl ?_) | (go_at_call 35; refine (place_any x F _ _).mono ?_; rintro e wn ⟨rfl, hbn⟩; have st := St.next (by assumption) hbn; have ho := st.old; have h14 := st.c14; have h15 := st.c15; clear hbn))
      go_ret
      exact ⟨ret_bool (by simp), st.hb⟩
    · have h1 : (F.op k == 25) = false := by simpa using h1
      rw [h1]
      by_cases h2 : F.raises rs k = true
      · rw [h2]
        go_enter Try.func56, Try.ntmps56
        go_wp2_with (first | go_skip | ((with_reducible refine at_box 30 rfl ?_); refine bx30 _ rfl x F rfl rfl ?_; intro w1 hbx hb1 hs1; have st := St.new hbx hb1; have ho := st.old; have h14 := st.c14; have h15 := st.c15; clear hbx hb1 hs1) | ((with_reducible refine at_load 30 rfl ?_); refine ld30 _ rfl _ rfl x F (St.bx (by assumption)) rfl ?_) | (go_at_call 35; refine (place_any x F _ _).mono ?_; rintro e wn ⟨rfl, hbn⟩; have st := St.next (by assumption) hbn; have ho := st.old; have h14 := st.c14; have h15 := st.c15; clear hbn) | (go_at_call 57; refine (rraises_any x F R rs rc k _ (St.fn (by assumption) hF) (St.row (by assumption) hR)).mono ?_; rintro e wn ⟨rfl, hbn⟩; have st := St.next (by assumption) hbn; have ho := st.old; have h14 := st.c14; have h15 := st.c15; clear hbn))
        go_ret
        exact ⟨ret_bool (by simp), st.hb⟩
      · have h2 : F.raises rs k = false := by simpa using h2
        rw [h2]
        go_enter Try.func56, Try.ntmps56
        go_wp2_with (first | go_skip | ((with_reducible refine at_box 30 rfl ?_); refine bx30 _ rfl x F rfl rfl ?_; intro w1 hbx hb1 hs1; have st := St.new hbx hb1; have ho := st.old; have h14 := st.c14; have h15 := st.c15; clear hbx hb1 hs1) | ((with_reducible refine at_load 30 rfl ?_); refine ld30 _ rfl _ rfl x F (St.bx (by assumption)) rfl ?_) | (go_at_call 35; refine (place_any x F _ _).mono ?_; rintro e wn ⟨rfl, hbn⟩; have st := St.next (by assumption) hbn; have ho := st.old; have h14 := st.c14; have h15 := st.c15; clear hbn) | (go_at_call 57; refine (rraises_any x F R rs rc k _ (St.fn (by assumption) hF) (St.row (by assumption) hR)).mono ?_; rintro e wn ⟨rfl, hbn⟩; have st := St.next (by assumption) hbn; have ho := st.old; have h14 := st.c14; have h15 := st.c15; clear hbn))
        go_ret
        exact ⟨ret_bool (by simp), st.hb⟩
  · have hp : F.place a = false := by simpa using hp
    rw [Fn.branches_out rs hp]
    go_enter Try.func56, Try.ntmps56
    go_wp2_with (first | go_skip | ((with_reducible refine at_box 30 rfl ?_); refine bx30 _ rfl x F rfl rfl ?_; intro w1 hbx hb1 hs1; have st := St.new hbx hb1; have ho := st.old; have h14 := st.c14; have h15 := st.c15; clear hbx hb1 hs1) | ((with_reducible refine at_load 30 rfl ?_); refine ld30 _ rfl _ rfl x F (St.bx (by assumption)) rfl ?_) | (go_at_call 35; refine (place_any x F _ _).mono ?_; rintro e wn ⟨rfl, hbn⟩; have st := St.next (by assumption) hbn; have ho := st.old; have h14 := st.c14; have h15 := st.c15; clear hbn))
    go_ret
    exact ⟨ret_bool (by simp), st.hb⟩
end Go.Proofs.Ytnnhlnefhndpdaa
