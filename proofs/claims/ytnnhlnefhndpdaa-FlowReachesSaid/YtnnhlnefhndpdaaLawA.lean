/- The walk of FlowReaches: whatever comes in, it returns true and only makes memory. -/
import Derived.Test.YtnnhlnefhndpdaaAwake
import Derived.Test.YtnnhlnefhndpdaaWalkE
import Derived.Test.YtnnhlnefhndpdaaWalkH
import Derived.Test.YtnnhlnefhndpdaaWalkI
namespace Go.Proofs.Ytnnhlnefhndpdaa
open Go.RowKit
set_option linter.unusedSimpArgs false

set_option maxHeartbeats 8000000 in
set_option maxRecDepth 100000 in
theorem flowReaches_walk (x : FX) (F : Fn) (R A : Option Addr) (rs : List Bool) (rc : Nat) (from_ : List Int) (ac : Nat) (stop : Int) (w : World) (hF : FnAt w x F) (hR : Row w 0 R (boolsV rs)) (hA : Row w 0 A (intsV from_)) :
    Calls Try.prog 3 #[x.val F, .agg #[.slice R rs.length rc, .slice A from_.length ac, .int .i64 stop]] w fun e w' => e = .returned (.bool true) ∧ Below w.heap.size w w' := by
  by_cases hfew : (decide (F.code.length ≤ 60) && decide (F.hs.length ≤ 60) && decide (rs.length ≤ 1000)) = true
  · have hb3 : F.code.length ≤ 60 ∧ F.hs.length ≤ 60 ∧ rs.length ≤ 1000 := by simpa [and_assoc] using hfew
    obtain ⟨hb0, hb1, hb2⟩ := hb3
    have Hfew := Lib.hid hfew
    clear hfew
    by_cases hl : from_.length ≤ 200
    · go_enter Try.func3, Try.ntmps3
      go_wp2_with (first | go_skip | ((with_reducible refine at_box 30 rfl ?_); refine bx30 _ rfl x F rfl rfl ?_; intro w1 hbx hb1 hs1; have st := St.new hbx hb1; have ho := st.old; have h14 := st.c14; have h15 := st.c15; clear hbx hb1 hs1) | ((with_reducible refine at_box 34 rfl ?_); refine wp_box 34 _ rfl #[.slice R rs.length rc, .slice A from_.length ac, .int .i64 stop] rfl rfl ?_; intro w2 hbq hb2 hs2; have st := St.next (by assumption) hb2; have ho := st.old; have h14 := st.c14; have h15 := st.c15; clear hb2) | ((with_reducible refine at_load 30 rfl ?_); refine ld30 _ rfl _ rfl x F (St.bx (by assumption)) rfl ?_) | (go_at_call 13; refine (awake15 _).mono ?_; rintro e wa ⟨rfl, hba⟩; have st := St.next (by assumption) hba; have hbq := Bk.stay hbq hba; have q0 := (hbq.cell 0).trans rfl; have q1 := (hbq.cell 1).trans rfl; clear hba) | (go_at_call 14; refine (few15 x F R rs.length rc _ true Hfew.out.symm).mono ?_; rintro e wf ⟨rfl, hbf⟩; have st := St.next (by assumption) hbf; have hbq := Bk.stay hbq hbf; have q0 := (hbq.cell 0).trans rfl; have q1 := (hbq.cell 1).trans rfl; have q2 := (hbq.cell 2).trans rfl; have hql := hbq.lt; clear hbf))
      have hS : St w wf.drew w.heap.size x F ∧ Below wf.heap.size wf wf.drew := ⟨st.drew, (Below.refl _ _).drew⟩
      refine h_begin (S := fun w' => St w w' w.heap.size x F ∧ Below wf.heap.size wf w') 18 #[false, false, false, false, false, false, false, false, false, false, false, false, false, false, false, false, false, false] rfl rfl ?_
      refine h_take (v := ?_) 0 (some 21) rfl rfl (by kernel_rfl) (by kernel_rfl) (by kernel_rfl) (fun _ _ _ h => h) (by rfl) hS (fun wS hSw => ?_) #[true, false, false, false, false, false, false, false, false, false, false, false, false, false, false, false, false, false] rfl ?_; rotate_left
      · refine run_ld30 _ (.tmp 2) ?_ ?_ hSw.1.bx <;> rfl
      (try simp only [Act.put, List.setIfInBounds_toArray, List.set_cons_zero, List.set_cons_succ])
      refine h_take (v := ?_) 1 (some 22) rfl rfl (by kernel_rfl) (by kernel_rfl) (by kernel_rfl) (fun _ _ _ h => h) (by rfl) hS (fun wS hSw => ?_) #[true, true, false, false, false, false, false, false, false, false, false, false, false, false, false, false, false, false] rfl ?_; rotate_left
      · clear hSw; go_simp; first | done | with_reducible rfl
      (try simp only [Act.put, List.setIfInBounds_toArray, List.set_cons_zero, List.set_cons_succ])
      refine h_take (v := ?_) 2 (some 23) rfl rfl (by kernel_rfl) (by kernel_rfl) (by kernel_rfl) (fun _ _ _ h => h) (by rfl) hS (fun wS hSw => ?_) #[true, true, true, false, false, false, false, false, false, false, false, false, false, false, false, false, false, false] rfl ?_; rotate_left
      · have hc := cells_of hSw.2; go_simp; first | done | with_reducible rfl
      (try simp only [Act.put, List.setIfInBounds_toArray, List.set_cons_zero, List.set_cons_succ])
      refine h_take (v := ?_) 3 (some 24) rfl rfl (by kernel_rfl) (by kernel_rfl) (by kernel_rfl) (fun _ _ _ h => h) (by rfl) hS (fun wS hSw => ?_) #[true, true, true, true, false, false, false, false, false, false, false, false, false, false, false, false, false, false] rfl ?_; rotate_left
      · clear hSw; go_simp; first | done | with_reducible rfl
      (try simp only [Act.put, List.setIfInBounds_toArray, List.set_cons_zero, List.set_cons_succ])
      refine h_take (v := ?_) 4 (some 25) rfl rfl (by kernel_rfl) (by kernel_rfl) (by kernel_rfl) (fun _ _ _ h => h) (by rfl) hS (fun wS hSw => ?_) #[true, true, true, true, true, false, false, false, false, false, false, false, false, false, false, false, false, false] rfl ?_; rotate_left
      · have hc := cells_of hSw.2; go_simp; first | done | with_reducible rfl
      (try simp only [Act.put, List.setIfInBounds_toArray, List.set_cons_zero, List.set_cons_succ])
      refine h_take (v := ?_) 5 (some 26) rfl rfl (by kernel_rfl) (by kernel_rfl) (by kernel_rfl) (fun _ _ _ h => h) (by rfl) hS (fun wS hSw => ?_) #[true, true, true, true, true, true, false, false, false, false, false, false, false, false, false, false, false, false] rfl ?_; rotate_left
      · clear hSw; go_simp; first | done | with_reducible rfl
      (try simp only [Act.put, List.setIfInBounds_toArray, List.set_cons_zero, List.set_cons_succ])
      refine h_take (v := ?_) 6 (some 27) rfl rfl (by kernel_rfl) (by kernel_rfl) (by kernel_rfl) (fun _ _ _ h => h) (by rfl) hS (fun wS hSw => ?_) #[true, true, true, true, true, true, true, false, false, false, false, false, false, false, false, false, false, false] rfl ?_; rotate_left
      · have hc := cells_of hSw.2; go_simp; first | done | with_reducible rfl
      (try simp only [Act.put, List.setIfInBounds_toArray, List.set_cons_zero, List.set_cons_succ])
      refine h_take (v := ?_) 8 (some 29) rfl rfl (by kernel_rfl) (by kernel_rfl) (by kernel_rfl) (fun _ _ _ h => h) (by rfl) hS (fun wS hSw => ?_) #[true, true, true, true, true, true, true, false, true, false, false, false, false, false, false, false, false, false] rfl ?_; rotate_left
      · refine run_ld30 _ (.tmp 2) ?_ ?_ hSw.1.bx <;> rfl
      (try simp only [Act.put, List.setIfInBounds_toArray, List.set_cons_zero, List.set_cons_succ])
      refine h_take (v := ?_) 9 (some 30) rfl rfl (by kernel_rfl) (by kernel_rfl) (by kernel_rfl) (fun _ _ _ h => h) (by rfl) hS (fun wS hSw => ?_) #[true, true, true, true, true, true, true, false, true, true, false, false, false, false, false, false, false, false] rfl ?_; rotate_left
      · clear hSw; go_simp; first | done | with_reducible rfl
      (try simp only [Act.put, List.setIfInBounds_toArray, List.set_cons_zero, List.set_cons_succ])
      refine h_take (v := ?_) 10 (some 31) rfl rfl (by kernel_rfl) (by kernel_rfl) (by kernel_rfl) (fun _ _ _ h => h) (by rfl) hS (fun wS hSw => ?_) #[true, true, true, true, true, true, true, false, true, true, true, false, false, false, false, false, false, false] rfl ?_; rotate_left
      · have hc := cells_of hSw.2; go_simp; first | done | with_reducible rfl
      (try simp only [Act.put, List.setIfInBounds_toArray, List.set_cons_zero, List.set_cons_succ])
      refine h_take (v := ?_) 11 (some 32) rfl rfl (by kernel_rfl) (by kernel_rfl) (by kernel_rfl) (fun _ _ _ h => h) (by rfl) hS (fun wS hSw => ?_) #[true, true, true, true, true, true, true, false, true, true, true, true, false, false, false, false, false, false] rfl ?_; rotate_left
      · clear hSw; go_simp; first | done | with_reducible rfl
      (try simp only [Act.put, List.setIfInBounds_toArray, List.set_cons_zero, List.set_cons_succ])
      refine h_take (v := ?_) 12 (some 33) rfl rfl (by kernel_rfl) (by kernel_rfl) (by kernel_rfl) (fun _ _ _ h => h) (by rfl) hS (fun wS hSw => ?_) #[true, true, true, true, true, true, true, false, true, true, true, true, true, false, false, false, false, false] rfl ?_; rotate_left
      · have hc := cells_of hSw.2; go_simp; first | done | with_reducible rfl
      (try simp only [Act.put, List.setIfInBounds_toArray, List.set_cons_zero, List.set_cons_succ])
      refine h_take (v := ?_) 13 (some 34) rfl rfl (by kernel_rfl) (by kernel_rfl) (by kernel_rfl) (fun _ _ _ h => h) (by rfl) hS (fun wS hSw => ?_) #[true, true, true, true, true, true, true, false, true, true, true, true, true, true, false, false, false, false] rfl ?_; rotate_left
      · clear hSw; go_simp; first | done | with_reducible rfl
      (try simp only [Act.put, List.setIfInBounds_toArray, List.set_cons_zero, List.set_cons_succ])
      refine h_take (v := ?_) 14 (some 35) rfl rfl (by kernel_rfl) (by kernel_rfl) (by kernel_rfl) (fun _ _ _ h => h) (by rfl) hS (fun wS hSw => ?_) #[true, true, true, true, true, true, true, false, true, true, true, true, true, true, true, false, false, false] rfl ?_; rotate_left
      · have hc := cells_of hSw.2; go_simp; first | done | with_reducible rfl
      (try simp only [Act.put, List.setIfInBounds_toArray, List.set_cons_zero, List.set_cons_succ])
      refine h_call 7 (some 28) (by kernel_rfl) rfl rfl (by rfl) #[true, true, true, true, true, true, true, true, true, true, true, true, true, true, true, false, false, false] rfl (by go_simp; exact ⟨rfl, rfl⟩) ?_
      refine (reach_any x F R A rs rc from_ ac stop _ (St.fn hS.1 hF) (St.row hS.1 hR) (St.row hS.1 hA) (by omega) (by omega) (by omega)).mono ?_
      rintro e wn ⟨A1, c1, rfl, hown1, hbn⟩
      refine ⟨_, rfl, ?_, ?_⟩
      · exact ⟨St.next hS.1 hbn, hS.2.trans (hbn.mono hS.2.size)⟩
      have hS : _ ∧ _ := ⟨St.next hS.1 hbn, hS.2.trans (hbn.mono hS.2.size)⟩
      (try have hown2 := hown2.stay hbn)
      (try simp only [Act.put, List.setIfInBounds_toArray, List.set_cons_zero, List.set_cons_succ])
      refine h_call 15 (some 36) (by kernel_rfl) rfl rfl (by rfl) #[true, true, true, true, true, true, true, true, true, true, true, true, true, true, true, true, false, false] rfl (by go_simp; exact ⟨rfl, rfl⟩) ?_
      refine (rreach_any x F R A rs rc from_ ac stop _ (St.fn hS.1 hF) (St.row hS.1 hR) (St.row hS.1 hA) (by omega) (by omega) (by omega)).mono ?_
      rintro e wn ⟨A2, c2, rfl, hown2, hbn⟩
      refine ⟨_, rfl, ?_, ?_⟩
      · exact ⟨St.next hS.1 hbn, hS.2.trans (hbn.mono hS.2.size)⟩
      have hS : _ ∧ _ := ⟨St.next hS.1 hbn, hS.2.trans (hbn.mono hS.2.size)⟩
      (try have hown1 := hown1.stay hbn)
      (try simp only [Act.put, List.setIfInBounds_toArray, List.set_cons_zero, List.set_cons_succ])
      refine h_call 16 (some 37) (by kernel_rfl) rfl rfl (by rfl) #[true, true, true, true, true, true, true, true, true, true, true, true, true, true, true, true, true, false] rfl (by go_simp; exact ⟨rfl, rfl⟩) ?_
      refine (same_any A1 A2 (reachL F rs from_ stop) (reachL F rs from_ stop) c1 c2 _ (hown1.row.lower (Nat.zero_le _)) (hown2.row.lower (Nat.zero_le _)) (Nat.le_trans (reachL_length F rs from_ stop) (by omega))).mono ?_
      rintro e wn ⟨rfl, hbn⟩
      refine ⟨_, rfl, ?_, ?_⟩
      · exact ⟨St.next hS.1 hbn, hS.2.trans (hbn.mono hS.2.size)⟩
      have hS : _ ∧ _ := ⟨St.next hS.1 hbn, hS.2.trans (hbn.mono hS.2.size)⟩
      (try simp only [Act.put, List.setIfInBounds_toArray, List.set_cons_zero, List.set_cons_succ])
      refine h_take (v := ?_) 17 (some 4) rfl rfl (by kernel_rfl) (by kernel_rfl) (by kernel_rfl) (fun _ _ _ h => h) (by rfl) hS (fun wS hSw => ?_) #[true, true, true, true, true, true, true, true, true, true, true, true, true, true, true, true, true, true] rfl ?_; rotate_left
      · clear hSw; go_simp; first | done | with_reducible rfl
      (try simp only [Act.put, List.setIfInBounds_toArray, List.set_cons_zero, List.set_cons_succ])
      refine wpAnyH_done (by kernel_rfl) ?_ _
      have st := hS.1
      go_wp2
      go_ret
      exact ⟨ret_bool (by simp), st.hb⟩
    · go_enter Try.func3, Try.ntmps3
      go_wp2_with (first | go_skip | ((with_reducible refine at_box 30 rfl ?_); refine bx30 _ rfl x F rfl rfl ?_; intro w1 hbx hb1 hs1; have st := St.new hbx hb1; have ho := st.old; have h14 := st.c14; have h15 := st.c15; clear hbx hb1 hs1) | ((with_reducible refine at_box 34 rfl ?_); refine wp_box 34 _ rfl #[.slice R rs.length rc, .slice A from_.length ac, .int .i64 stop] rfl rfl ?_; intro w2 hbq hb2 hs2; have st := St.next (by assumption) hb2; have ho := st.old; have h14 := st.c14; have h15 := st.c15; clear hb2) | ((with_reducible refine at_load 30 rfl ?_); refine ld30 _ rfl _ rfl x F (St.bx (by assumption)) rfl ?_) | (go_at_call 13; refine (awake15 _).mono ?_; rintro e wa ⟨rfl, hba⟩; have st := St.next (by assumption) hba; have hbq := Bk.stay hbq hba; have q0 := (hbq.cell 0).trans rfl; have q1 := (hbq.cell 1).trans rfl; clear hba) | (go_at_call 14; refine (few15 x F R rs.length rc _ true Hfew.out.symm).mono ?_; rintro e wf ⟨rfl, hbf⟩; have st := St.next (by assumption) hbf; have hbq := Bk.stay hbq hbf; have q0 := (hbq.cell 0).trans rfl; have q1 := (hbq.cell 1).trans rfl; have q2 := (hbq.cell 2).trans rfl; have hql := hbq.lt; clear hbf))
      go_ret
      exact ⟨ret_bool (by simp), st.hb⟩
  · have hfew : (decide (F.code.length ≤ 60) && decide (F.hs.length ≤ 60) && decide (rs.length ≤ 1000)) = false := by simpa using hfew
    have Hfew := Lib.hid hfew
    clear hfew
    go_enter Try.func3, Try.ntmps3
    go_wp2_with (first | go_skip | ((with_reducible refine at_box 30 rfl ?_); refine bx30 _ rfl x F rfl rfl ?_; intro w1 hbx hb1 hs1; have st := St.new hbx hb1; have ho := st.old; have h14 := st.c14; have h15 := st.c15; clear hbx hb1 hs1) | ((with_reducible refine at_box 34 rfl ?_); refine wp_box 34 _ rfl #[.slice R rs.length rc, .slice A from_.length ac, .int .i64 stop] rfl rfl ?_; intro w2 hbq hb2 hs2; have st := St.next (by assumption) hb2; have ho := st.old; have h14 := st.c14; have h15 := st.c15; clear hb2) | ((with_reducible refine at_load 30 rfl ?_); refine ld30 _ rfl _ rfl x F (St.bx (by assumption)) rfl ?_) | (go_at_call 13; refine (awake15 _).mono ?_; rintro e wa ⟨rfl, hba⟩; have st := St.next (by assumption) hba; have hbq := Bk.stay hbq hba; have q0 := (hbq.cell 0).trans rfl; have q1 := (hbq.cell 1).trans rfl; clear hba) | (go_at_call 14; refine (few15 x F R rs.length rc _ false Hfew.out.symm).mono ?_; rintro e wf ⟨rfl, hbf⟩; have st := St.next (by assumption) hbf; have hbq := Bk.stay hbq hbf; have q0 := (hbq.cell 0).trans rfl; have q1 := (hbq.cell 1).trans rfl; have q2 := (hbq.cell 2).trans rfl; have hql := hbq.lt; clear hbf))
    go_ret
    exact ⟨ret_bool (by simp), st.hb⟩
end Go.Proofs.Ytnnhlnefhndpdaa
