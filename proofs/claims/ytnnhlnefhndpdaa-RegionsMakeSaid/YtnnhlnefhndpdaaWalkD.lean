/- The walks of the reference's way, of In, of SameInts and of few. -/
import Derived.Test.YtnnhlnefhndpdaaWalkC
namespace Go.Proofs.Ytnnhlnefhndpdaa
open Go.RowKit

set_option maxHeartbeats 4000000 in
theorem way_any (x : FX) (F : Fn) (R : Option Addr) (rs : List Bool) (rc : Nat) (k : Nat) (to : Int) (w : World) (hF : FnAt w x F) (hR : Row w 0 R (boolsV rs)) (hm : F.hs.length ≤ 1000) (hn : F.code.length ≤ 1000) (hk : k < F.code.length) :
    Calls Try.prog 36 #[x.val F, .slice R rs.length rc, .int .i64 k, .int .i64 to] w fun e w' => e = .returned (.bool (F.way rs k to)) ∧ Below w.heap.size w w' := by
  obtain ⟨B, off, c2, c3, c4, c5, c6, hC, hB, ho0, ha0, -⟩ := hF.code_at hk
  have hix := ix25 hC hk x.cc
  rw [← Fn.op_nat hk] at ho0
  rw [← Fn.arg_nat] at ha0
  clear hC
  unfold Fn.way
  have hkn : k < 1000 := by omega
  generalize F.op k = o at *
  generalize F.arg k = g at *
  have hcases : o = 24 ∨ o = 25 ∨ o = 26 ∨ o = 27 ∨ o = 0 ∨ ((o == 24) = false ∧ (o == 25) = false ∧ (o != 24) = true ∧ (o != 26) = true ∧ (o != 27) = true ∧ (o != 0) = true) := by
    simp only [beq_eq_false_iff_ne, bne_iff_ne]
    omega
  by_cases hr : F.raises rs k = true
  · rw [hr]
    by_cases hto : (to == (k : Int) + 1) = true
    · rw [hto]
      rcases hcases with rfl | rfl | rfl | rfl | rfl | ⟨h24, h25, h24', h26, h27, h0⟩
      all_goals
        go_enter Try.func36, Try.ntmps36
        go_wp2_with (first | go_skip | ((with_reducible refine at_box 30 rfl ?_); refine bx30 _ rfl x F rfl rfl ?_; intro w1 hbx hb1 hs1; have st := St.new hbx hb1; have ho := st.old; have h14 := st.c14; have h15 := st.c15; clear hbx hb1 hs1) | ((with_reducible refine at_load 30 rfl ?_); refine ld30 _ rfl _ rfl x F (St.bx (by assumption)) rfl ?_) | (go_at_call 57; refine (rraises_any x F R rs rc k _ (St.fn (by assumption) hF) (St.row (by assumption) hR)).mono ?_; rintro e wn ⟨rfl, hbn⟩; have st := St.next (by assumption) hbn; have ho := st.old; have h14 := st.c14; have h15 := st.c15; clear hbn) | (go_at_call 58; refine (rhandler_any x F k _ (St.fn (by assumption) hF) hm).mono ?_; rintro e wn ⟨rfl, hbn⟩; have st := St.next (by assumption) hbn; have ho := st.old; have h14 := st.c14; have h15 := st.c15; clear hbn))
        all_goals
          go_ret
          exact ⟨ret_bool (by simp_all), st.hb⟩
    · have hto : (to == (k : Int) + 1) = false := by simpa using hto
      rw [hto]
      rcases hcases with rfl | rfl | rfl | rfl | rfl | ⟨h24, h25, h24', h26, h27, h0⟩
      all_goals
        go_enter Try.func36, Try.ntmps36
        go_wp2_with (first | go_skip | ((with_reducible refine at_box 30 rfl ?_); refine bx30 _ rfl x F rfl rfl ?_; intro w1 hbx hb1 hs1; have st := St.new hbx hb1; have ho := st.old; have h14 := st.c14; have h15 := st.c15; clear hbx hb1 hs1) | ((with_reducible refine at_load 30 rfl ?_); refine ld30 _ rfl _ rfl x F (St.bx (by assumption)) rfl ?_) | (go_at_call 57; refine (rraises_any x F R rs rc k _ (St.fn (by assumption) hF) (St.row (by assumption) hR)).mono ?_; rintro e wn ⟨rfl, hbn⟩; have st := St.next (by assumption) hbn; have ho := st.old; have h14 := st.c14; have h15 := st.c15; clear hbn) | (go_at_call 58; refine (rhandler_any x F k _ (St.fn (by assumption) hF) hm).mono ?_; rintro e wn ⟨rfl, hbn⟩; have st := St.next (by assumption) hbn; have ho := st.old; have h14 := st.c14; have h15 := st.c15; clear hbn))
        all_goals
          go_ret
          exact ⟨ret_bool (by simp_all), st.hb⟩
  · have hr : F.raises rs k = false := by simpa using hr
    rw [hr]
    by_cases hto : (to == (k : Int) + 1) = true
    · rw [hto]
      rcases hcases with rfl | rfl | rfl | rfl | rfl | ⟨h24, h25, h24', h26, h27, h0⟩
      all_goals
        go_enter Try.func36, Try.ntmps36
        go_wp2_with (first | go_skip | ((with_reducible refine at_box 30 rfl ?_); refine bx30 _ rfl x F rfl rfl ?_; intro w1 hbx hb1 hs1; have st := St.new hbx hb1; have ho := st.old; have h14 := st.c14; have h15 := st.c15; clear hbx hb1 hs1) | ((with_reducible refine at_load 30 rfl ?_); refine ld30 _ rfl _ rfl x F (St.bx (by assumption)) rfl ?_) | (go_at_call 57; refine (rraises_any x F R rs rc k _ (St.fn (by assumption) hF) (St.row (by assumption) hR)).mono ?_; rintro e wn ⟨rfl, hbn⟩; have st := St.next (by assumption) hbn; have ho := st.old; have h14 := st.c14; have h15 := st.c15; clear hbn) | (go_at_call 58; refine (rhandler_any x F k _ (St.fn (by assumption) hF) hm).mono ?_; rintro e wn ⟨rfl, hbn⟩; have st := St.next (by assumption) hbn; have ho := st.old; have h14 := st.c14; have h15 := st.c15; clear hbn))
        all_goals
          go_ret
          exact ⟨ret_bool (by simp_all), st.hb⟩
    · have hto : (to == (k : Int) + 1) = false := by simpa using hto
      rw [hto]
      rcases hcases with rfl | rfl | rfl | rfl | rfl | ⟨h24, h25, h24', h26, h27, h0⟩
      all_goals
        go_enter Try.func36, Try.ntmps36
        go_wp2_with (first | go_skip | ((with_reducible refine at_box 30 rfl ?_); refine bx30 _ rfl x F rfl rfl ?_; intro w1 hbx hb1 hs1; have st := St.new hbx hb1; have ho := st.old; have h14 := st.c14; have h15 := st.c15; clear hbx hb1 hs1) | ((with_reducible refine at_load 30 rfl ?_); refine ld30 _ rfl _ rfl x F (St.bx (by assumption)) rfl ?_) | (go_at_call 57; refine (rraises_any x F R rs rc k _ (St.fn (by assumption) hF) (St.row (by assumption) hR)).mono ?_; rintro e wn ⟨rfl, hbn⟩; have st := St.next (by assumption) hbn; have ho := st.old; have h14 := st.c14; have h15 := st.c15; clear hbn) | (go_at_call 58; refine (rhandler_any x F k _ (St.fn (by assumption) hF) hm).mono ?_; rintro e wn ⟨rfl, hbn⟩; have st := St.next (by assumption) hbn; have ho := st.old; have h14 := st.c14; have h15 := st.c15; clear hbn))
        all_goals
          go_ret
          exact ⟨ret_bool (by simp_all), st.hb⟩
end Go.Proofs.Ytnnhlnefhndpdaa
