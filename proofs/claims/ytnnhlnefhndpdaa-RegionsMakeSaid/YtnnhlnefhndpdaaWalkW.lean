/- The walk of the reference's Join. -/
import Derived.Test.YtnnhlnefhndpdaaWalkV
import Derived.Test.YtnnhlnefhndpdaaWalkK
namespace Go.Proofs.Ytnnhlnefhndpdaa
open Go.RowKit
set_option linter.unusedVariables false

set_option maxHeartbeats 2000000 in
theorem rjoin_any (x : FX) (F : Fn) (R : Option Addr) (rs : List Bool) (rc : Nat) (a : Int) (w : World) (hF : FnAt w x F) (hR : Row w 0 R (boolsV rs)) (hm : F.hs.length ≤ 1000) (hn : F.code.length ≤ 1000) :
    Calls Try.prog 28 #[x.val F, .slice R rs.length rc, .int .i64 a] w fun e w' => e = .returned (.int .i64 (joinF F rs a)) ∧ Below w.heap.size w w' := by
  have hah := fun (W : World) (h : FnAt W x F) => rahead_any x F W h hm hn
  by_cases h0 : a < 0
  · have H := Lib.hid (joinF_no (rs := rs) (a := a) (F := F) (.inl (by simp [Fn.place]; omega)))
    clear hah
    go_enter Try.func28, Try.ntmps28
    go_wp2_with (first | go_skip | ((with_reducible refine at_box 30 rfl ?_); refine bx30 _ rfl x F rfl rfl ?_; intro w1 hbx hb1 hs1; have st := St.new hbx hb1; have ho := st.old; have h14 := st.c14; have h15 := st.c15; clear hbx hb1 hs1))
    go_ret
    exact ⟨ret_int H.out.symm, st.hb⟩
  · by_cases h1 : (F.code.length : Int) ≤ a
    · have H := Lib.hid (joinF_no (rs := rs) (a := a) (F := F) (.inl (by simp [Fn.place]; omega)))
      clear hah
      go_enter Try.func28, Try.ntmps28
      go_wp2_with (first | go_skip | ((with_reducible refine at_box 30 rfl ?_); refine bx30 _ rfl x F rfl rfl ?_; intro w1 hbx hb1 hs1; have st := St.new hbx hb1; have ho := st.old; have h14 := st.c14; have h15 := st.c15; clear hbx hb1 hs1))
      go_ret
      exact ⟨ret_int H.out.symm, st.hb⟩
    · obtain ⟨k, rfl⟩ := Int.eq_ofNat_of_zero_le (show 0 ≤ a by omega)
      have hk : k < F.code.length := by omega
      cases hA : F.ahead with
      | false =>
        rw [hA] at hah
        have H := Lib.hid (joinF_no (rs := rs) (a := k) (F := F) (.inr hA))
        have Hah := Lib.hid hah
        clear hah hA
        go_enter Try.func28, Try.ntmps28
        go_wp2_with (first | go_skip | ((with_reducible refine at_box 30 rfl ?_); refine bx30 _ rfl x F rfl rfl ?_; intro w1 hbx hb1 hs1; have st := St.new hbx hb1; have ho := st.old; have h14 := st.c14; have h15 := st.c15; clear hbx hb1 hs1) | ((with_reducible refine at_load 30 rfl ?_); refine ld30 _ rfl _ rfl x F (St.bx (by assumption)) rfl ?_) | (go_at_call 24; refine (Hah.out _ (St.fn (by assumption) hF)).mono ?_; rintro e wn ⟨rfl, hbn⟩; have st := St.next (by assumption) hbn; have h14 := st.c14; clear hbn))
        go_ret
        exact ⟨ret_int H.out.symm, st.hb⟩
      | true =>
        rw [hA] at hah
        have H := Lib.hid (joinF_yes (rs := rs) (Fn.place_of_nat hk) hA)
        have Hah := Lib.hid hah
        have HA := Lib.hid hA
        clear hah hA
        go_enter Try.func28, Try.ntmps28
        go_wp2_with (first | go_skip | ((with_reducible refine at_box 30 rfl ?_); refine bx30 _ rfl x F rfl rfl ?_; intro w1 hbx hb1 hs1; have st := St.new hbx hb1; have ho := st.old; have h14 := st.c14; have h15 := st.c15; clear hbx hb1 hs1) | ((with_reducible refine at_load 30 rfl ?_); refine ld30 _ rfl _ rfl x F (St.bx (by assumption)) rfl ?_) | (go_at_call 24; refine (Hah.out _ (St.fn (by assumption) hF)).mono ?_; rintro e wn ⟨rfl, hbn⟩; have st := St.next (by assumption) hbn; have h14 := st.c14; clear hbn))
        go_loopg [7] (F.code.length - (k + 1)) (fun g s wr => ∃ (m : Nat), k + 1 ≤ m ∧ m ≤ F.code.length ∧ g = F.code.length - m ∧ s = .int .i64 m ∧ Hid (∀ i : Nat, i < m → ¬Strict F rs i k) ∧ St w wr w.heap.size x F)
        case atStart => exact ⟨k + 1, by omega, by omega, rfl, by go_num, Lib.hid (fun i hi h => by have := h.lt HA.out; omega), st⟩
        case round =>
          clear st h14
          obtain ⟨m, hkm, hmn, rfl, rfl, HD, st⟩ := hrel
          have ho := st.old
          have h14 := st.c14
          by_cases hlt : m < F.code.length
          · cases hd : joinsD F rs k m
            · have Hd := Lib.hid (show ¬Strict F rs m k by rw [← joinsD_iff HA.out, hd]; simp)
              go_wp2_with (first | ((with_reducible refine at_load 30 rfl ?_); refine ld30 _ rfl _ rfl x F (St.bx (by assumption)) rfl ?_) | (go_at_call 54; refine (rjoins_any x F R rs rc k m _ (St.fn (by assumption) hF) (St.row (by assumption) hR) hm hn).mono ?_; rw [hd]; rintro e wn ⟨rfl, hbn⟩; have st := St.next (by assumption) hbn; have h14 := st.c14; clear hbn))
              go_roundg (F.code.length - (m + 1))
              case measure => omega
              case rel =>
                refine ⟨m + 1, by omega, by omega, rfl, by go_num, Lib.hid (fun i hi => ?_), st⟩
                by_cases him : i = m
                · subst him; exact Hd.out
                · exact HD.out i (by omega)
            · have Hd := Lib.hid ((joinsD_iff HA.out).1 hd)
              go_wp2_with (first | ((with_reducible refine at_load 30 rfl ?_); refine ld30 _ rfl _ rfl x F (St.bx (by assumption)) rfl ?_) | (go_at_call 54; refine (rjoins_any x F R rs rc k m _ (St.fn (by assumption) hF) (St.row (by assumption) hR) hm hn).mono ?_; rw [hd]; rintro e wn ⟨rfl, hbn⟩; have st := St.next (by assumption) hbn; have h14 := st.c14; clear hbn))
              go_ret
              exact ⟨ret_int (by rw [H.out]; exact (least_eq hlt Hd.out HD.out).symm), st.hb⟩
          · have hj : jn F rs k = -1 := least_none fun i hi => HD.out i (by omega)
            have Hj := Lib.hid hj
            clear hj
            go_wp2
            go_ret
            exact ⟨ret_int (by rw [H.out, Hj.out]), st.hb⟩
end Go.Proofs.Ytnnhlnefhndpdaa
