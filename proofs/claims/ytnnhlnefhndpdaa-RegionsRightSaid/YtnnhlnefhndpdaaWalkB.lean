/- The walks of flow's Raises, Leaves and Branches: each gives what the plain word gives, and only makes memory. -/
import Derived.Test.YtnnhlnefhndpdaaWalkA
namespace Go.Proofs.Ytnnhlnefhndpdaa
open Go.RowKit

set_option maxHeartbeats 1000000 in
theorem raises_any (x : FX) (F : Fn) (R : Option Addr) (rs : List Bool) (rc : Nat) (a : Int) (w : World) (hF : FnAt w x F) (hR : Row w 0 R (boolsV rs)) :
    Calls Try.prog 39 #[x.val F, .slice R rs.length rc, .int .i64 a] w fun e w' => e = .returned (.bool (F.raises rs a)) ∧ Below w.heap.size w w' := by
  have hcall := fun W (h : FnAt W x F) => op_any x F a W h
  unfold Fn.raises
  have hpl := @Fn.place_of_op F a
  generalize F.op a = o at *
  have Hcall := Lib.hid hcall
  have Hpl := Lib.hid hpl
  clear hcall hpl
  by_cases hcall : o = 19
  · subst hcall
    obtain ⟨h0, h1⟩ := Hpl.out (by decide)
    obtain ⟨k, rfl⟩ := Int.eq_ofNat_of_zero_le h0
    by_cases hk : k < rs.length
    · obtain ⟨B, off, hA, -, hlt, hc⟩ := hR.bool_at hk
      have hix := ix31 hA hk rc
      have et : tells rs k = rs.getD k false := by simp [tells, hk]
      rw [et]
      generalize rs.getD k false = b at *
      clear hA et
      go_enter Try.func39, Try.ntmps39
      go_wp2_with (first | go_skip | ((with_reducible refine at_box 30 rfl ?_); refine bx30 _ rfl x F rfl rfl ?_; intro w1 hbx hb1 hs1; have st := St.new hbx hb1; have ho := st.old; have h14 := st.c14; have h15 := st.c15; clear hbx hb1 hs1) | ((with_reducible refine at_load 30 rfl ?_); refine ld30 _ rfl _ rfl x F (St.bx (by assumption)) rfl ?_) | (go_at_call 38; refine (Hcall.out _ (St.fn (by assumption) hF)).mono ?_; rintro e wn ⟨rfl, hbn⟩; have st := St.next (by assumption) hbn; have ho := st.old; have h14 := st.c14; have h15 := st.c15; clear hbn))
      go_ret
      exact ⟨ret_bool (by simp), st.hb⟩
    · have et : tells rs k = false := by simp [tells, hk]
      rw [et]
      clear et
      go_enter Try.func39, Try.ntmps39
      go_wp2_with (first | go_skip | ((with_reducible refine at_box 30 rfl ?_); refine bx30 _ rfl x F rfl rfl ?_; intro w1 hbx hb1 hs1; have st := St.new hbx hb1; have ho := st.old; have h14 := st.c14; have h15 := st.c15; clear hbx hb1 hs1) | ((with_reducible refine at_load 30 rfl ?_); refine ld30 _ rfl _ rfl x F (St.bx (by assumption)) rfl ?_) | (go_at_call 38; refine (Hcall.out _ (St.fn (by assumption) hF)).mono ?_; rintro e wn ⟨rfl, hbn⟩; have st := St.next (by assumption) hbn; have ho := st.old; have h14 := st.c14; have h15 := st.c15; clear hbn))
      go_ret
      exact ⟨ret_bool (by simp), st.hb⟩
  · have hn : (o == 19) = false := by simpa using hcall
    rw [hn]
    go_enter Try.func39, Try.ntmps39
    go_wp2_with (first | go_skip | ((with_reducible refine at_box 30 rfl ?_); refine bx30 _ rfl x F rfl rfl ?_; intro w1 hbx hb1 hs1; have st := St.new hbx hb1; have ho := st.old; have h14 := st.c14; have h15 := st.c15; clear hbx hb1 hs1) | ((with_reducible refine at_load 30 rfl ?_); refine ld30 _ rfl _ rfl x F (St.bx (by assumption)) rfl ?_) | (go_at_call 38; refine (Hcall.out _ (St.fn (by assumption) hF)).mono ?_; rintro e wn ⟨rfl, hbn⟩; have st := St.next (by assumption) hbn; have ho := st.old; have h14 := st.c14; have h15 := st.c15; clear hbn))
    all_goals
      go_ret
      exact ⟨ret_bool (by simp_all), st.hb⟩

set_option maxHeartbeats 1000000 in
theorem leaves_any (x : FX) (F : Fn) (R : Option Addr) (rs : List Bool) (rc : Nat) (a : Int) (w : World) (hF : FnAt w x F) (hR : Row w 0 R (boolsV rs)) (hm : F.hs.length ≤ 1000) :
    Calls Try.prog 27 #[x.val F, .slice R rs.length rc, .int .i64 a] w fun e w' => e = .returned (.bool (F.leaves rs a)) ∧ Below w.heap.size w w' := by
  unfold Fn.leaves
  by_cases h1 : (F.op a == 27) = true
  · rw [h1]
    go_enter Try.func27, Try.ntmps27
    go_wp2_with (first | go_skip | ((with_reducible refine at_box 30 rfl ?_); refine bx30 _ rfl x F rfl rfl ?_; intro w1 hbx hb1 hs1; have st := St.new hbx hb1; have ho := st.old; have h14 := st.c14; have h15 := st.c15; clear hbx hb1 hs1) | ((with_reducible refine at_load 30 rfl ?_); refine ld30 _ rfl _ rfl x F (St.bx (by assumption)) rfl ?_) | (go_at_call 38; refine (op_any x F a _ (St.fn (by assumption) hF)).mono ?_; rintro e wn ⟨rfl, hbn⟩; have st := St.next (by assumption) hbn; have ho := st.old; have h14 := st.c14; have h15 := st.c15; clear hbn))
    go_ret
    exact ⟨ret_bool (by simp), st.hb⟩
  · have h1 : (F.op a == 27) = false := by simpa using h1
    rw [h1]
    by_cases h2 : F.raises rs a = true
    · rw [h2]
      go_enter Try.func27, Try.ntmps27
      go_wp2_with (first | go_skip | ((with_reducible refine at_box 30 rfl ?_); refine bx30 _ rfl x F rfl rfl ?_; intro w1 hbx hb1 hs1; have st := St.new hbx hb1; have ho := st.old; have h14 := st.c14; have h15 := st.c15; clear hbx hb1 hs1) | ((with_reducible refine at_load 30 rfl ?_); refine ld30 _ rfl _ rfl x F (St.bx (by assumption)) rfl ?_) | (go_at_call 38; refine (op_any x F a _ (St.fn (by assumption) hF)).mono ?_; rintro e wn ⟨rfl, hbn⟩; have st := St.next (by assumption) hbn; have ho := st.old; have h14 := st.c14; have h15 := st.c15; clear hbn) | (go_at_call 39; refine (raises_any x F R rs rc a _ (St.fn (by assumption) hF) (St.row (by assumption) hR)).mono ?_; rintro e wn ⟨rfl, hbn⟩; have st := St.next (by assumption) hbn; have ho := st.old; have h14 := st.c14; have h15 := st.c15; clear hbn) | (go_at_call 40; refine (handler_any x F a _ (St.fn (by assumption) hF) hm).mono ?_; rintro e wn ⟨rfl, hbn⟩; have st := St.next (by assumption) hbn; have ho := st.old; have h14 := st.c14; have h15 := st.c15; clear hbn))
      go_ret
      exact ⟨ret_bool (by simp), st.hb⟩
    · have h2 : F.raises rs a = false := by simpa using h2
      rw [h2]
      go_enter Try.func27, Try.ntmps27
      go_wp2_with (first | go_skip | ((with_reducible refine at_box 30 rfl ?_); refine bx30 _ rfl x F rfl rfl ?_; intro w1 hbx hb1 hs1; have st := St.new hbx hb1; have ho := st.old; have h14 := st.c14; have h15 := st.c15; clear hbx hb1 hs1) | ((with_reducible refine at_load 30 rfl ?_); refine ld30 _ rfl _ rfl x F (St.bx (by assumption)) rfl ?_) | (go_at_call 38; refine (op_any x F a _ (St.fn (by assumption) hF)).mono ?_; rintro e wn ⟨rfl, hbn⟩; have st := St.next (by assumption) hbn; have ho := st.old; have h14 := st.c14; have h15 := st.c15; clear hbn) | (go_at_call 39; refine (raises_any x F R rs rc a _ (St.fn (by assumption) hF) (St.row (by assumption) hR)).mono ?_; rintro e wn ⟨rfl, hbn⟩; have st := St.next (by assumption) hbn; have ho := st.old; have h14 := st.c14; have h15 := st.c15; clear hbn) | (go_at_call 40; refine (handler_any x F a _ (St.fn (by assumption) hF) hm).mono ?_; rintro e wn ⟨rfl, hbn⟩; have st := St.next (by assumption) hbn; have ho := st.old; have h14 := st.c14; have h15 := st.c15; clear hbn))
      go_ret
      exact ⟨ret_bool (by simp), st.hb⟩

set_option maxHeartbeats 1000000 in
theorem branches_any (x : FX) (F : Fn) (R : Option Addr) (rs : List Bool) (rc : Nat) (a : Int) (w : World) (hF : FnAt w x F) (hR : Row w 0 R (boolsV rs)) :
    Calls Try.prog 33 #[x.val F, .slice R rs.length rc, .int .i64 a] w fun e w' => e = .returned (.bool (F.branches rs a)) ∧ Below w.heap.size w w' := by
  unfold Fn.branches
  by_cases h1 : (F.op a == 25) = true
  · rw [h1]
    go_enter Try.func33, Try.ntmps33
    go_wp2_with (first | go_skip | ((with_reducible refine at_box 30 rfl ?_); refine bx30 _ rfl x F rfl rfl ?_; intro w1 hbx hb1 hs1; have st := St.new hbx hb1; have ho := st.old; have h14 := st.c14; have h15 := st.c15; clear hbx hb1 hs1) | ((with_reducible refine at_load 30 rfl ?_); refine ld30 _ rfl _ rfl x F (St.bx (by assumption)) rfl ?_) | (go_at_call 38; refine (op_any x F a _ (St.fn (by assumption) hF)).mono ?_; rintro e wn ⟨rfl, hbn⟩; have st := St.next (by assumption) hbn; have ho := st.old; have h14 := st.c14; have h15 := st.c15; clear hbn))
    go_ret
    exact ⟨ret_bool (by simp), st.hb⟩
  · have h1 : (F.op a == 25) = false := by simpa using h1
    rw [h1]
    by_cases h2 : (F.op a != 26) = true
    · rw [h2]
      go_enter Try.func33, Try.ntmps33
      go_wp2_with (first | go_skip | ((with_reducible refine at_box 30 rfl ?_); refine bx30 _ rfl x F rfl rfl ?_; intro w1 hbx hb1 hs1; have st := St.new hbx hb1; have ho := st.old; have h14 := st.c14; have h15 := st.c15; clear hbx hb1 hs1) | ((with_reducible refine at_load 30 rfl ?_); refine ld30 _ rfl _ rfl x F (St.bx (by assumption)) rfl ?_) | (go_at_call 38; refine (op_any x F a _ (St.fn (by assumption) hF)).mono ?_; rintro e wn ⟨rfl, hbn⟩; have st := St.next (by assumption) hbn; have ho := st.old; have h14 := st.c14; have h15 := st.c15; clear hbn) | (go_at_call 39; refine (raises_any x F R rs rc a _ (St.fn (by assumption) hF) (St.row (by assumption) hR)).mono ?_; rintro e wn ⟨rfl, hbn⟩; have st := St.next (by assumption) hbn; have ho := st.old; have h14 := st.c14; have h15 := st.c15; clear hbn))
      go_ret
      exact ⟨ret_bool (by simp), st.hb⟩
    · have h2 : (F.op a != 26) = false := by simpa using h2
      rw [h2]
      go_enter Try.func33, Try.ntmps33
      go_wp2_with (first | go_skip | ((with_reducible refine at_box 30 rfl ?_); refine bx30 _ rfl x F rfl rfl ?_; intro w1 hbx hb1 hs1; have st := St.new hbx hb1; have ho := st.old; have h14 := st.c14; have h15 := st.c15; clear hbx hb1 hs1) | ((with_reducible refine at_load 30 rfl ?_); refine ld30 _ rfl _ rfl x F (St.bx (by assumption)) rfl ?_) | (go_at_call 38; refine (op_any x F a _ (St.fn (by assumption) hF)).mono ?_; rintro e wn ⟨rfl, hbn⟩; have st := St.next (by assumption) hbn; have ho := st.old; have h14 := st.c14; have h15 := st.c15; clear hbn) | (go_at_call 39; refine (raises_any x F R rs rc a _ (St.fn (by assumption) hF) (St.row (by assumption) hR)).mono ?_; rintro e wn ⟨rfl, hbn⟩; have st := St.next (by assumption) hbn; have ho := st.old; have h14 := st.c14; have h15 := st.c15; clear hbn))
      go_ret
      exact ⟨ret_bool (by simp), st.hb⟩
end Go.Proofs.Ytnnhlnefhndpdaa
