/- The walk of RegionsHold: whatever comes in, it returns true and only makes memory. -/
import Derived.Test.YtnnhlnefhndpdaaWalkS
import Derived.Test.YtnnhlnefhndpdaaWalkU
namespace Go.Proofs.Ytnnhlnefhndpdaa
open Go.RowKit
set_option linter.unusedSimpArgs false
set_option linter.unusedVariables false

set_option maxHeartbeats 2000000 in
set_option maxRecDepth 100000 in
theorem regionsHold_walk (x : FX) (F : Fn) (R A : Option Addr) (rs : List Bool) (rc : Nat) (a j : Int) (pl : List Int) (ac : Nat) (w : World) (hF : FnX w x F) (hR : Row w 0 R (boolsV rs)) (hA : Row w 0 A (intsV pl)) :
    Calls Try.prog 7 #[x.val F, .slice R rs.length rc, .agg #[.int .i64 a, .int .i64 j, .slice A pl.length ac]] w fun e w' => e = .returned (.bool true) ∧ Below w.heap.size w w' := by
  by_cases hfew : (decide (F.code.length ≤ 40) && decide (F.hs.length ≤ 40) && decide (rs.length ≤ 1000)) = true
  · have hb3 : F.code.length ≤ 40 ∧ F.hs.length ≤ 40 ∧ rs.length ≤ 1000 := by simpa [and_assoc] using hfew
    obtain ⟨hb0, hb1, hb2⟩ := hb3
    have Hfew := Lib.hid hfew
    clear hfew
    by_cases hl : pl.length ≤ 200
    · go_enter Try.func7, Try.ntmps7
      go_upto_region 3 with (first | go_skip | ((with_reducible refine at_box 30 rfl ?_); refine bx30 _ rfl x F rfl rfl ?_; intro w1 hbx hb1 hs1; have st := St.new hbx hb1; have ho := st.old; have h14 := st.c14; have h15 := st.c15; clear hbx hb1 hs1) | ((with_reducible refine at_box 44 rfl ?_); refine wp_box 44 _ rfl #[.int .i64 a, .int .i64 j, .slice A pl.length ac] rfl rfl ?_; intro w2 hbq hb2 hs2; have st := St.next (by assumption) hb2; have ho := st.old; have h14 := st.c14; have h15 := st.c15; clear hb2; have q0 := (hbq.cell 0).trans rfl; have q1 := (hbq.cell 1).trans rfl; have q2 := (hbq.cell 2).trans rfl; have hql := hbq.lt; have h14 := st.c14) | ((with_reducible refine at_load 30 rfl ?_); refine ld30 _ rfl _ rfl x F (St.bx (by assumption)) rfl ?_) | ((with_reducible refine at_load 44 rfl ?_); refine wp_loadbox 44 _ rfl _ rfl _ hbq _ Try.underlying44 rfl (by kernel_rfl) rfl ?_) | (go_at_call 20; refine (awake16 _).mono ?_; rintro e wa ⟨rfl, hbn⟩; have st := St.next (by assumption) hbn; have hbq := Bk.stay hbq hbn; have q0 := (hbq.cell 0).trans rfl; have q1 := (hbq.cell 1).trans rfl; have q2 := (hbq.cell 2).trans rfl; have hql := hbq.lt; have h14 := st.c14; clear hbn) | (go_at_call 21; refine (few16 x F R rs.length rc _ true Hfew.out.symm).mono ?_; rintro e wf ⟨rfl, hbn⟩; have st := St.next (by assumption) hbn; have hbq := Bk.stay hbq hbn; have q0 := (hbq.cell 0).trans rfl; have q1 := (hbq.cell 1).trans rfl; have q2 := (hbq.cell 2).trans rfl; have hql := hbq.lt; have h14 := st.c14; clear hbn))
      have hS : St w wf.drew w.heap.size x F ∧ Below wf.heap.size wf wf.drew := ⟨st.drew, (Below.refl _ _).drew⟩
      refine h_begin (S := fun w' => St w w' w.heap.size x F ∧ Below wf.heap.size wf w') 10 #[false, false, false, false, false, false, false, false, false, false] rfl rfl ?_
      refine h_take (v := ?_) 0 (some 22) rfl rfl (by kernel_rfl) (by kernel_rfl) (by kernel_rfl) (fun _ _ _ h => h) (by rfl) hS (fun wS hSw => ?_) #[true, false, false, false, false, false, false, false, false, false] rfl ?_; rotate_left
      · refine run_ld30 _ (.tmp 3) ?_ ?_ hSw.1.bx <;> rfl
      (try simp only [Act.put, List.setIfInBounds_toArray, List.set_cons_zero, List.set_cons_succ])
      refine h_take (v := ?_) 1 (some 23) rfl rfl (by kernel_rfl) (by kernel_rfl) (by kernel_rfl) (fun _ _ _ h => h) (by rfl) hS (fun wS hSw => ?_) #[true, true, false, false, false, false, false, false, false, false] rfl ?_; rotate_left
      · clear hSw; go_simp; first | done | with_reducible rfl
      (try simp only [Act.put, List.setIfInBounds_toArray, List.set_cons_zero, List.set_cons_succ])
      refine h_take (v := ?_) 2 (some 24) rfl rfl (by kernel_rfl) (by kernel_rfl) (by kernel_rfl) (fun _ _ _ h => h) (by rfl) hS (fun wS hSw => ?_) #[true, true, true, false, false, false, false, false, false, false] rfl ?_; rotate_left
      · refine run_ld44 _ (.tmp 5) ?_ ?_ (hbq.below hSw.2 hql) rfl <;> rfl
      (try simp only [Act.put, List.setIfInBounds_toArray, List.set_cons_zero, List.set_cons_succ])
      refine h_take (v := ?_) 4 (some 26) rfl rfl (by kernel_rfl) (by kernel_rfl) (by kernel_rfl) (fun _ _ _ h => h) (by rfl) hS (fun wS hSw => ?_) #[true, true, true, false, true, false, false, false, false, false] rfl ?_; rotate_left
      · refine run_ld30 _ (.tmp 3) ?_ ?_ hSw.1.bx <;> rfl
      (try simp only [Act.put, List.setIfInBounds_toArray, List.set_cons_zero, List.set_cons_succ])
      refine h_take (v := ?_) 5 (some 27) rfl rfl (by kernel_rfl) (by kernel_rfl) (by kernel_rfl) (fun _ _ _ h => h) (by rfl) hS (fun wS hSw => ?_) #[true, true, true, false, true, true, false, false, false, false] rfl ?_; rotate_left
      · clear hSw; go_simp; first | done | with_reducible rfl
      (try simp only [Act.put, List.setIfInBounds_toArray, List.set_cons_zero, List.set_cons_succ])
      refine h_take (v := ?_) 6 (some 28) rfl rfl (by kernel_rfl) (by kernel_rfl) (by kernel_rfl) (fun _ _ _ h => h) (by rfl) hS (fun wS hSw => ?_) #[true, true, true, false, true, true, true, false, false, false] rfl ?_; rotate_left
      · refine run_ld44 _ (.tmp 5) ?_ ?_ (hbq.below hSw.2 hql) rfl <;> rfl
      (try simp only [Act.put, List.setIfInBounds_toArray, List.set_cons_zero, List.set_cons_succ])
      refine h_call 3 (some 25) (by kernel_rfl) rfl rfl (by rfl) #[true, true, true, true, true, true, true, false, false, false] rfl (by go_simp; exact ⟨rfl, rfl⟩) ?_
      refine (holds_any x F R A rs rc a j pl ac _ (St.fnx hS.1 hF) (St.row hS.1 hR) (St.row hS.1 hA) (by omega) (by omega) (by omega)).mono ?_
      rintro e wn ⟨rfl, hbn⟩
      refine ⟨_, rfl, ?_, ?_⟩
      · exact ⟨St.next hS.1 hbn, hS.2.trans (hbn.mono hS.2.size)⟩
      have hS : _ ∧ _ := ⟨St.next hS.1 hbn, hS.2.trans (hbn.mono hS.2.size)⟩
      (try simp only [Act.put, List.setIfInBounds_toArray, List.set_cons_zero, List.set_cons_succ])
      refine h_call 7 (some 29) (by kernel_rfl) rfl rfl (by rfl) #[true, true, true, true, true, true, true, true, false, false] rfl (by go_simp; exact ⟨rfl, rfl⟩) ?_
      refine (rholds_any x F R A rs rc a j pl ac _ (St.fn hS.1 hF.fn) (St.row hS.1 hR) (St.row hS.1 hA) (by omega) (by omega) (by omega)).mono ?_
      rintro e wn ⟨rfl, hbn⟩
      refine ⟨_, rfl, ?_, ?_⟩
      · exact ⟨St.next hS.1 hbn, hS.2.trans (hbn.mono hS.2.size)⟩
      have hS : _ ∧ _ := ⟨St.next hS.1 hbn, hS.2.trans (hbn.mono hS.2.size)⟩
      (try simp only [Act.put, List.setIfInBounds_toArray, List.set_cons_zero, List.set_cons_succ])
      refine h_take (v := ?_) 8 (some 30) rfl rfl (by kernel_rfl) (by kernel_rfl) (by kernel_rfl) (fun _ _ _ h => h) (by rfl) hS (fun wS hSw => ?_) #[true, true, true, true, true, true, true, true, true, false] rfl ?_; rotate_left
      · clear hSw; go_simp; first | done | with_reducible rfl
      (try simp only [Act.put, List.setIfInBounds_toArray, List.set_cons_zero, List.set_cons_succ])
      refine h_take (v := ?_) 9 (some 6) rfl rfl (by kernel_rfl) (by kernel_rfl) (by kernel_rfl) (fun _ _ _ h => h) (by rfl) hS (fun wS hSw => ?_) #[true, true, true, true, true, true, true, true, true, true] rfl ?_; rotate_left
      · clear hSw; go_simp; first | done | with_reducible rfl
      (try simp only [Act.put, List.setIfInBounds_toArray, List.set_cons_zero, List.set_cons_succ])
      refine wpAnyH_done (by kernel_rfl) ?_ _
      have st := hS.1
      go_wp2
      go_ret
      exact ⟨ret_bool (by simp), st.hb⟩
    · go_enter Try.func7, Try.ntmps7
      go_wp2_with (first | go_skip | ((with_reducible refine at_box 30 rfl ?_); refine bx30 _ rfl x F rfl rfl ?_; intro w1 hbx hb1 hs1; have st := St.new hbx hb1; have ho := st.old; have h14 := st.c14; have h15 := st.c15; clear hbx hb1 hs1) | ((with_reducible refine at_box 44 rfl ?_); refine wp_box 44 _ rfl #[.int .i64 a, .int .i64 j, .slice A pl.length ac] rfl rfl ?_; intro w2 hbq hb2 hs2; have st := St.next (by assumption) hb2; have ho := st.old; have h14 := st.c14; have h15 := st.c15; clear hb2; have q0 := (hbq.cell 0).trans rfl; have q1 := (hbq.cell 1).trans rfl; have q2 := (hbq.cell 2).trans rfl; have hql := hbq.lt; have h14 := st.c14) | ((with_reducible refine at_load 30 rfl ?_); refine ld30 _ rfl _ rfl x F (St.bx (by assumption)) rfl ?_) | ((with_reducible refine at_load 44 rfl ?_); refine wp_loadbox 44 _ rfl _ rfl _ hbq _ Try.underlying44 rfl (by kernel_rfl) rfl ?_) | (go_at_call 20; refine (awake16 _).mono ?_; rintro e wa ⟨rfl, hbn⟩; have st := St.next (by assumption) hbn; have hbq := Bk.stay hbq hbn; have q0 := (hbq.cell 0).trans rfl; have q1 := (hbq.cell 1).trans rfl; have q2 := (hbq.cell 2).trans rfl; have hql := hbq.lt; have h14 := st.c14; clear hbn) | (go_at_call 21; refine (few16 x F R rs.length rc _ true Hfew.out.symm).mono ?_; rintro e wf ⟨rfl, hbn⟩; have st := St.next (by assumption) hbn; have hbq := Bk.stay hbq hbn; have q0 := (hbq.cell 0).trans rfl; have q1 := (hbq.cell 1).trans rfl; have q2 := (hbq.cell 2).trans rfl; have hql := hbq.lt; have h14 := st.c14; clear hbn))
      go_ret
      exact ⟨rfl, st.hb⟩
  · have hfew : (decide (F.code.length ≤ 40) && decide (F.hs.length ≤ 40) && decide (rs.length ≤ 1000)) = false := by simpa using hfew
    have Hfew := Lib.hid hfew
    clear hfew
    go_enter Try.func7, Try.ntmps7
    go_wp2_with (first | go_skip | ((with_reducible refine at_box 30 rfl ?_); refine bx30 _ rfl x F rfl rfl ?_; intro w1 hbx hb1 hs1; have st := St.new hbx hb1; have ho := st.old; have h14 := st.c14; have h15 := st.c15; clear hbx hb1 hs1) | ((with_reducible refine at_box 44 rfl ?_); refine wp_box 44 _ rfl #[.int .i64 a, .int .i64 j, .slice A pl.length ac] rfl rfl ?_; intro w2 hbq hb2 hs2; have st := St.next (by assumption) hb2; have ho := st.old; have h14 := st.c14; have h15 := st.c15; clear hb2; have q0 := (hbq.cell 0).trans rfl; have q1 := (hbq.cell 1).trans rfl; have q2 := (hbq.cell 2).trans rfl; have hql := hbq.lt; have h14 := st.c14) | ((with_reducible refine at_load 30 rfl ?_); refine ld30 _ rfl _ rfl x F (St.bx (by assumption)) rfl ?_) | ((with_reducible refine at_load 44 rfl ?_); refine wp_loadbox 44 _ rfl _ rfl _ hbq _ Try.underlying44 rfl (by kernel_rfl) rfl ?_) | (go_at_call 20; refine (awake16 _).mono ?_; rintro e wa ⟨rfl, hbn⟩; have st := St.next (by assumption) hbn; have hbq := Bk.stay hbq hbn; have q0 := (hbq.cell 0).trans rfl; have q1 := (hbq.cell 1).trans rfl; have q2 := (hbq.cell 2).trans rfl; have hql := hbq.lt; have h14 := st.c14; clear hbn) | (go_at_call 21; refine (few16 x F R rs.length rc _ false Hfew.out.symm).mono ?_; rintro e wf ⟨rfl, hbn⟩; have st := St.next (by assumption) hbn; have hbq := Bk.stay hbq hbn; have q0 := (hbq.cell 0).trans rfl; have q1 := (hbq.cell 1).trans rfl; have q2 := (hbq.cell 2).trans rfl; have hql := hbq.lt; have h14 := st.c14; clear hbn))
    go_ret
    exact ⟨rfl, st.hb⟩
end Go.Proofs.Ytnnhlnefhndpdaa
