/- The walk of regions' Join. -/
import Derived.Test.YtnnhlnefhndpdaaPlain8
import Derived.Test.YtnnhlnefhndpdaaWalkM
namespace Go.Proofs.Ytnnhlnefhndpdaa
open Go.RowKit

set_option maxHeartbeats 2000000 in
theorem join_any (x : FX) (F : Fn) (R : Option Addr) (rs : List Bool) (rc : Nat) (a : Int) (w : World) (hF : FnX w x F) (hR : Row w 0 R (boolsV rs)) (hm : F.hs.length ≤ 1000) (hn : F.code.length ≤ 1000) :
    Calls Try.prog 26 #[x.val F, .slice R rs.length rc, .int .i64 a] w fun e w' => e = .returned (.int .i64 (joinF F rs a)) ∧ Below w.heap.size w w' := by
  have hah := fun (W : World) (h : FnX W x F) => ahead_any x F R rs.length rc W h hm hn
  by_cases h0 : a < 0
  · have H := Lib.hid (joinF_no (rs := rs) (a := a) (F := F) (.inl (by simp [Fn.place]; omega)))
    clear hah
    go_enter Try.func26, Try.ntmps26
    go_wp2_with (first | go_skip | ((with_reducible refine at_box 30 rfl ?_); refine bx30 _ rfl x F rfl rfl ?_; intro w1 hbx hb1 hs1; have st := St.new hbx hb1; have ho := st.old; have h14 := st.c14; have h15 := st.c15; clear hbx hb1 hs1))
    go_ret
    exact ⟨ret_int H.out.symm, st.hb⟩
  · by_cases h1 : (F.code.length : Int) ≤ a
    · have H := Lib.hid (joinF_no (rs := rs) (a := a) (F := F) (.inl (by simp [Fn.place]; omega)))
      clear hah
      go_enter Try.func26, Try.ntmps26
      go_wp2_with (first | go_skip | ((with_reducible refine at_box 30 rfl ?_); refine bx30 _ rfl x F rfl rfl ?_; intro w1 hbx hb1 hs1; have st := St.new hbx hb1; have ho := st.old; have h14 := st.c14; have h15 := st.c15; clear hbx hb1 hs1))
      go_ret
      exact ⟨ret_int H.out.symm, st.hb⟩
    · obtain ⟨k, rfl⟩ := Int.eq_ofNat_of_zero_le (show 0 ≤ a by omega)
      have hk : k < F.code.length := by omega
      cases hA : F.ahead with
      | false =>
        rw [hA] at hah
        have H := Lib.hid (joinF_no (rs := rs) (a := k) (F := F) (.inr hA))
        have Hah := Lib.hid hah
        clear hah hA
        go_enter Try.func26, Try.ntmps26
        go_wp2_with (first | go_skip | ((with_reducible refine at_box 30 rfl ?_); refine bx30 _ rfl x F rfl rfl ?_; intro w1 hbx hb1 hs1; have st := St.new hbx hb1; have ho := st.old; have h14 := st.c14; have h15 := st.c15; clear hbx hb1 hs1) | ((with_reducible refine at_load 30 rfl ?_); refine ld30 _ rfl _ rfl x F (St.bx (by assumption)) rfl ?_) | (go_at_call 44; refine (Hah.out _ (St.fnx (by assumption) hF)).mono ?_; rintro e wn ⟨rfl, hbn⟩; have st := St.next (by assumption) hbn; clear hbn))
        go_ret
        exact ⟨ret_int H.out.symm, st.hb⟩
      | true =>
        rw [hA] at hah
        have H := Lib.hid (joinF_yes (rs := rs) (Fn.place_of_nat hk) hA)
        have Hah := Lib.hid hah
        have HA := Lib.hid hA
        clear hah hA
        go_enter Try.func26, Try.ntmps26
        go_wp2_with (first | go_skip | ((with_reducible refine at_box 30 rfl ?_); refine bx30 _ rfl x F rfl rfl ?_; intro w1 hbx hb1 hs1; have st := St.new hbx hb1; have ho := st.old; have h14 := st.c14; have h15 := st.c15; clear hbx hb1 hs1) | ((with_reducible refine at_load 30 rfl ?_); refine ld30 _ rfl _ rfl x F (St.bx (by assumption)) rfl ?_) | (go_at_call 44; refine (Hah.out _ (St.fnx (by assumption) hF)).mono ?_; rintro e wn ⟨rfl, hbn⟩; have st := St.next (by assumption) hbn; clear hbn) | (go_at_call 53; refine (joins_any x F R rs rc _ (St.fnx (by assumption) hF) (St.row (by assumption) hR) hm hn HA.out).mono ?_; rintro e wn ⟨B, l, rfl, HL, hs, hB, hbn⟩; have st := St.next (by assumption) hbn; have hix := ix32 (A := some ⟨B, 0, none⟩) rfl hk F.code.length; have hc0 := ints_at hs (by rw [HL.out.1]; exact hk); clear hbn))
        go_ret
        exact ⟨ret_int (by rw [H.out, ← HL.out.2 k hk, List.getD_eq_getElem?_getD]), st.hb⟩
end Go.Proofs.Ytnnhlnefhndpdaa
