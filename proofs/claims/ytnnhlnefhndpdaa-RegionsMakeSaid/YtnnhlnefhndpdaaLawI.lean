/- The walk of RegionsMake: whatever comes in, it returns true and only makes memory. -/
import Derived.Test.YtnnhlnefhndpdaaWalkY
import Derived.Test.YtnnhlnefhndpdaaWalkZ
import Derived.Test.YtnnhlnefhndpdaaWalkS
namespace Go.Proofs.Ytnnhlnefhndpdaa
open Go.RowKit
set_option linter.unusedSimpArgs false
set_option linter.unusedVariables false

theorem ofF_length (F : Fn) (rs : List Bool) (a : Int) : (ofF F rs a).pl.length ≤ F.code.length := by
  unfold ofF
  split
  · exact reachL_length _ _ _ _
  · exact Nat.zero_le _
theorem makeF_length {F : Fn} {rs : List Bool} {r : Rg} (h : r ∈ makeF F rs) : r.pl.length ≤ F.code.length := by
  unfold makeF at h
  split at h
  · obtain ⟨i, _, rfl⟩ := List.mem_map.1 h
    exact reachL_length _ _ _ _
  · simp at h

set_option maxHeartbeats 8000000 in
set_option maxRecDepth 100000 in
theorem regionsMake_walk (x : FX) (F : Fn) (R : Option Addr) (rs : List Bool) (rc : Nat) (w : World) (hF : FnX w x F) (hR : Row w 0 R (boolsV rs)) :
    Calls Try.prog 11 #[x.val F, .slice R rs.length rc] w fun e w' => e = .returned (.bool true) ∧ Below w.heap.size w w' := by
  by_cases hfew : (decide (F.code.length ≤ 40) && decide (F.hs.length ≤ 40) && decide (rs.length ≤ 1000)) = true
  · have hb3 : F.code.length ≤ 40 ∧ F.hs.length ≤ 40 ∧ rs.length ≤ 1000 := by simpa [and_assoc] using hfew
    obtain ⟨hb0, hb1, hb2⟩ := hb3
    have Hfew := Lib.hid hfew
    clear hfew
    go_enter Try.func11, Try.ntmps11
    go_wp2_with (first | go_skip | ((with_reducible refine at_box 30 rfl ?_); refine bx30 _ rfl x F rfl rfl ?_; intro w1 hbx hb1 hs1; have st := St.new hbx hb1; have ho := st.old; have h14 := st.c14; have h15 := st.c15; clear hbx hb1 hs1) | ((with_reducible refine at_load 30 rfl ?_); refine ld30 _ rfl _ rfl x F (St.bx (by assumption)) rfl ?_) | (go_at_call 20; refine (awake16 _).mono ?_; rintro e wa ⟨rfl, hbn⟩; have st := St.next (by assumption) hbn; have h14 := st.c14; clear hbn) | (go_at_call 21; refine (few16 x F R rs.length rc _ true Hfew.out.symm).mono ?_; rintro e wf ⟨rfl, hbn⟩; have st := St.next (by assumption) hbn; have h14 := st.c14; clear hbn))
    go_loopg [5] (F.code.length + 2) (fun g s wr => ∃ (k : Nat) (j : Int), k ≤ F.code.length + 2 ∧ g = F.code.length + 2 - k ∧ s = .int .i64 j ∧ Hid (j = (k : Int) - 1) ∧ St w wr w.heap.size x F)
    case atStart => exact ⟨0, -1, by omega, rfl, rfl, Lib.hid (by omega), st⟩
    case round =>
      clear st h14
      obtain ⟨k, j, hk, rfl, rfl, HJ, st⟩ := hrel
      have ho := st.old
      have h14 := st.c14
      have hxl := st.bx.lt
      have hj0 : -1 ≤ j := by have := HJ.out; omega
      by_cases hlt : j ≤ (F.code.length : Int)
      · have hj1 := fun W h1 h2 => join_any x F R rs rc j W h1 h2 (by omega) (by omega)
        have hj2 := fun W h1 h2 => rjoin_any x F R rs rc j W h1 h2 (by omega) (by omega)
        generalize joinF F rs j = q at *
        have hqq : (q != q) = false := by simp
        have Hj1 := Lib.hid hj1
        have Hj2 := Lib.hid hj2
        clear hj1 hj2
        go_wp2_with fail
        have hS : St w wr.drew w.heap.size x F ∧ Below wr.heap.size wr wr.drew := ⟨st.drew, (Below.refl _ _).drew⟩
        refine h_begin (S := fun w' => St w w' w.heap.size x F ∧ Below wr.heap.size wr w') 21 #[false, false, false, false, false, false, false, false, false, false, false, false, false, false, false, false, false, false, false, false, false] rfl rfl ?_
        refine h_take (v := ?_) 0 (some 25) rfl rfl (by kernel_rfl) (by kernel_rfl) (by kernel_rfl) (fun _ _ _ h => h) (by rfl) hS (fun wS hSw => ?_) #[true, false, false, false, false, false, false, false, false, false, false, false, false, false, false, false, false, false, false, false, false] rfl ?_; rotate_left
        · refine run_ld30 _ (.tmp 2) ?_ ?_ hSw.1.bx <;> rfl
        (try simp only [Act.put, List.setIfInBounds_toArray, List.set_cons_zero, List.set_cons_succ])
        refine h_take (v := ?_) 1 (some 26) rfl rfl (by kernel_rfl) (by kernel_rfl) (by kernel_rfl) (fun _ _ _ h => h) (by rfl) hS (fun wS hSw => ?_) #[true, true, false, false, false, false, false, false, false, false, false, false, false, false, false, false, false, false, false, false, false] rfl ?_; rotate_left
        · clear hSw; go_simp; first | done | with_reducible rfl
        (try simp only [Act.put, List.setIfInBounds_toArray, List.set_cons_zero, List.set_cons_succ])
        refine h_take (v := ?_) 2 (some 27) rfl rfl (by kernel_rfl) (by kernel_rfl) (by kernel_rfl) (fun _ _ _ h => h) (by rfl) hS (fun wS hSw => ?_) #[true, true, true, false, false, false, false, false, false, false, false, false, false, false, false, false, false, false, false, false, false] rfl ?_; rotate_left
        · clear hSw; go_simp; first | done | with_reducible rfl
        (try simp only [Act.put, List.setIfInBounds_toArray, List.set_cons_zero, List.set_cons_succ])
        refine h_take (v := ?_) 4 (some 29) rfl rfl (by kernel_rfl) (by kernel_rfl) (by kernel_rfl) (fun _ _ _ h => h) (by rfl) hS (fun wS hSw => ?_) #[true, true, true, false, true, false, false, false, false, false, false, false, false, false, false, false, false, false, false, false, false] rfl ?_; rotate_left
        · refine run_ld30 _ (.tmp 2) ?_ ?_ hSw.1.bx <;> rfl
        (try simp only [Act.put, List.setIfInBounds_toArray, List.set_cons_zero, List.set_cons_succ])
        refine h_take (v := ?_) 5 (some 30) rfl rfl (by kernel_rfl) (by kernel_rfl) (by kernel_rfl) (fun _ _ _ h => h) (by rfl) hS (fun wS hSw => ?_) #[true, true, true, false, true, true, false, false, false, false, false, false, false, false, false, false, false, false, false, false, false] rfl ?_; rotate_left
        · clear hSw; go_simp; first | done | with_reducible rfl
        (try simp only [Act.put, List.setIfInBounds_toArray, List.set_cons_zero, List.set_cons_succ])
        refine h_take (v := ?_) 6 (some 31) rfl rfl (by kernel_rfl) (by kernel_rfl) (by kernel_rfl) (fun _ _ _ h => h) (by rfl) hS (fun wS hSw => ?_) #[true, true, true, false, true, true, true, false, false, false, false, false, false, false, false, false, false, false, false, false, false] rfl ?_; rotate_left
        · clear hSw; go_simp; first | done | with_reducible rfl
        (try simp only [Act.put, List.setIfInBounds_toArray, List.set_cons_zero, List.set_cons_succ])
        refine h_call 3 (some 28) (by kernel_rfl) rfl rfl (by rfl) #[true, true, true, true, true, true, true, false, false, false, false, false, false, false, false, false, false, false, false, false, false] rfl (by go_simp; exact ⟨rfl, rfl⟩) ?_
        refine (Hj1.out _ (St.fnx hS.1 hF) (St.row hS.1 hR)).mono ?_
        rintro e wn ⟨rfl, hbn⟩
        refine ⟨_, rfl, ?_, ?_⟩
        · exact ⟨St.next hS.1 hbn, hS.2.trans (hbn.mono hS.2.size)⟩
        have hS : _ ∧ _ := ⟨St.next hS.1 hbn, hS.2.trans (hbn.mono hS.2.size)⟩
        (try simp only [Act.put, List.setIfInBounds_toArray, List.set_cons_zero, List.set_cons_succ])
        refine h_call 7 (some 32) (by kernel_rfl) rfl rfl (by rfl) #[true, true, true, true, true, true, true, true, false, false, false, false, false, false, false, false, false, false, false, false, false] rfl (by go_simp; exact ⟨rfl, rfl⟩) ?_
        refine (Hj2.out _ (St.fn hS.1 hF.fn) (St.row hS.1 hR)).mono ?_
        rintro e wn ⟨rfl, hbn⟩
        refine ⟨_, rfl, ?_, ?_⟩
        · exact ⟨St.next hS.1 hbn, hS.2.trans (hbn.mono hS.2.size)⟩
        have hS : _ ∧ _ := ⟨St.next hS.1 hbn, hS.2.trans (hbn.mono hS.2.size)⟩
        (try simp only [Act.put, List.setIfInBounds_toArray, List.set_cons_zero, List.set_cons_succ])
        refine h_take (v := ?_) 8 (some 33) rfl rfl (by kernel_rfl) (by kernel_rfl) (by kernel_rfl) (fun _ _ _ h => h) (by rfl) hS (fun wS hSw => ?_) #[true, true, true, true, true, true, true, true, true, false, false, false, false, false, false, false, false, false, false, false, false] rfl ?_; rotate_left
        · clear hSw; go_simp; first | done | with_reducible rfl
        (try simp only [Act.put, List.setIfInBounds_toArray, List.set_cons_zero, List.set_cons_succ])
        refine h_take (v := ?_) 9 (some 34) rfl rfl (by kernel_rfl) (by kernel_rfl) (by kernel_rfl) (fun _ _ _ h => h) (by rfl) hS (fun wS hSw => ?_) #[true, true, true, true, true, true, true, true, true, true, false, false, false, false, false, false, false, false, false, false, false] rfl ?_; rotate_left
        · clear hSw; go_simp; first | done | with_reducible rfl
        (try simp only [Act.put, List.setIfInBounds_toArray, List.set_cons_zero, List.set_cons_succ])
        refine h_take (v := ?_) 10 (some 35) rfl rfl (by kernel_rfl) (by kernel_rfl) (by kernel_rfl) (fun _ _ _ h => h) (by rfl) hS (fun wS hSw => ?_) #[true, true, true, true, true, true, true, true, true, true, true, false, false, false, false, false, false, false, false, false, false] rfl ?_; rotate_left
        · refine run_ld30 _ (.tmp 2) ?_ ?_ hSw.1.bx <;> rfl
        (try simp only [Act.put, List.setIfInBounds_toArray, List.set_cons_zero, List.set_cons_succ])
        refine h_take (v := ?_) 11 (some 36) rfl rfl (by kernel_rfl) (by kernel_rfl) (by kernel_rfl) (fun _ _ _ h => h) (by rfl) hS (fun wS hSw => ?_) #[true, true, true, true, true, true, true, true, true, true, true, true, false, false, false, false, false, false, false, false, false] rfl ?_; rotate_left
        · clear hSw; go_simp; first | done | with_reducible rfl
        (try simp only [Act.put, List.setIfInBounds_toArray, List.set_cons_zero, List.set_cons_succ])
        refine h_take (v := ?_) 12 (some 37) rfl rfl (by kernel_rfl) (by kernel_rfl) (by kernel_rfl) (fun _ _ _ h => h) (by rfl) hS (fun wS hSw => ?_) #[true, true, true, true, true, true, true, true, true, true, true, true, true, false, false, false, false, false, false, false, false] rfl ?_; rotate_left
        · clear hSw; go_simp; first | done | with_reducible rfl
        (try simp only [Act.put, List.setIfInBounds_toArray, List.set_cons_zero, List.set_cons_succ])
        refine h_take (v := ?_) 14 (some 39) rfl rfl (by kernel_rfl) (by kernel_rfl) (by kernel_rfl) (fun _ _ _ h => h) (by rfl) hS (fun wS hSw => ?_) #[true, true, true, true, true, true, true, true, true, true, true, true, true, false, true, false, false, false, false, false, false] rfl ?_; rotate_left
        · refine run_ld30 _ (.tmp 2) ?_ ?_ hSw.1.bx <;> rfl
        (try simp only [Act.put, List.setIfInBounds_toArray, List.set_cons_zero, List.set_cons_succ])
        refine h_take (v := ?_) 15 (some 40) rfl rfl (by kernel_rfl) (by kernel_rfl) (by kernel_rfl) (fun _ _ _ h => h) (by rfl) hS (fun wS hSw => ?_) #[true, true, true, true, true, true, true, true, true, true, true, true, true, false, true, true, false, false, false, false, false] rfl ?_; rotate_left
        · clear hSw; go_simp; first | done | with_reducible rfl
        (try simp only [Act.put, List.setIfInBounds_toArray, List.set_cons_zero, List.set_cons_succ])
        refine h_take (v := ?_) 16 (some 41) rfl rfl (by kernel_rfl) (by kernel_rfl) (by kernel_rfl) (fun _ _ _ h => h) (by rfl) hS (fun wS hSw => ?_) #[true, true, true, true, true, true, true, true, true, true, true, true, true, false, true, true, true, false, false, false, false] rfl ?_; rotate_left
        · clear hSw; go_simp; first | done | with_reducible rfl
        (try simp only [Act.put, List.setIfInBounds_toArray, List.set_cons_zero, List.set_cons_succ])
        refine h_call 13 (some 38) (by kernel_rfl) rfl rfl (by rfl) #[true, true, true, true, true, true, true, true, true, true, true, true, true, true, true, true, true, false, false, false, false] rfl (by go_simp; exact ⟨rfl, rfl⟩) ?_
        refine (of_any x F R rs rc j _ (St.fnx hS.1 hF) (St.row hS.1 hR) (by omega) (by omega)).mono ?_
        rintro e wn ⟨A1, c1, rfl, hown1, hbn⟩
        refine ⟨_, rfl, ?_, ?_⟩
        · exact ⟨St.next hS.1 hbn, hS.2.trans (hbn.mono hS.2.size)⟩
        have hS : _ ∧ _ := ⟨St.next hS.1 hbn, hS.2.trans (hbn.mono hS.2.size)⟩
        (try simp only [Act.put, List.setIfInBounds_toArray, List.set_cons_zero, List.set_cons_succ])
        refine h_call 17 (some 42) (by kernel_rfl) rfl rfl (by rfl) #[true, true, true, true, true, true, true, true, true, true, true, true, true, true, true, true, true, true, false, false, false] rfl (by go_simp; exact ⟨rfl, rfl⟩) ?_
        refine (rof_any x F R rs rc j _ (St.fn hS.1 hF.fn) (St.row hS.1 hR) (by omega) (by omega)).mono ?_
        rintro e wn ⟨A2, c2, rfl, hown2, hbn⟩
        refine ⟨_, rfl, ?_, ?_⟩
        · exact ⟨St.next hS.1 hbn, hS.2.trans (hbn.mono hS.2.size)⟩
        have hS : _ ∧ _ := ⟨St.next hS.1 hbn, hS.2.trans (hbn.mono hS.2.size)⟩
        have hown1 := hown1.stay hbn
        (try simp only [Act.put, List.setIfInBounds_toArray, List.set_cons_zero, List.set_cons_succ])
        refine h_call 18 (some 43) (by kernel_rfl) rfl rfl (by rfl) #[true, true, true, true, true, true, true, true, true, true, true, true, true, true, true, true, true, true, true, false, false] rfl (by go_simp; exact ⟨rfl, rfl⟩) ?_
        refine (same44_eq (ofF F rs j) A1 A2 c1 c2 _ (hown1.row.lower (Nat.zero_le _)) (hown2.row.lower (Nat.zero_le _)) (by have := ofF_length F rs j; omega)).mono ?_
        rintro e wn ⟨rfl, hbn⟩
        refine ⟨_, rfl, ?_, ?_⟩
        · exact ⟨St.next hS.1 hbn, hS.2.trans (hbn.mono hS.2.size)⟩
        have hS : _ ∧ _ := ⟨St.next hS.1 hbn, hS.2.trans (hbn.mono hS.2.size)⟩
        (try simp only [Act.put, List.setIfInBounds_toArray, List.set_cons_zero, List.set_cons_succ])
        refine h_take (v := ?_) 19 (some 44) rfl rfl (by kernel_rfl) (by kernel_rfl) (by kernel_rfl) (fun _ _ _ h => h) (by rfl) hS (fun wS hSw => ?_) #[true, true, true, true, true, true, true, true, true, true, true, true, true, true, true, true, true, true, true, true, false] rfl ?_; rotate_left
        · clear hSw; go_simp; first | done | with_reducible rfl
        (try simp only [Act.put, List.setIfInBounds_toArray, List.set_cons_zero, List.set_cons_succ])
        refine h_take (v := ?_) 20 (some 45) rfl rfl (by kernel_rfl) (by kernel_rfl) (by kernel_rfl) (fun _ _ _ h => h) (by rfl) hS (fun wS hSw => ?_) #[true, true, true, true, true, true, true, true, true, true, true, true, true, true, true, true, true, true, true, true, true] rfl ?_; rotate_left
        · clear hSw; go_simp; first | done | with_reducible rfl
        (try simp only [Act.put, List.setIfInBounds_toArray, List.set_cons_zero, List.set_cons_succ])
        refine wpAnyH_done (by kernel_rfl) ?_ _
        have st := hS.1
        clear hS
        go_wp2
        go_roundg (F.code.length + 2 - (k + 1))
        case measure => have := HJ.out; omega
        case rel => exact ⟨k + 1, j + 1, by have := HJ.out; omega, rfl, by go_num, Lib.hid (by have := HJ.out; omega), st⟩
      · go_wp2_with fail
        have hS : St w wr.drew w.heap.size x F ∧ Below wr.heap.size wr wr.drew := ⟨st.drew, (Below.refl _ _).drew⟩
        refine h_begin (S := fun w' => St w w' w.heap.size x F ∧ Below wr.heap.size wr w') 8 #[false, false, false, false, false, false, false, false] rfl rfl ?_
        refine h_take (v := ?_) 0 (some 46) rfl rfl (by kernel_rfl) (by kernel_rfl) (by kernel_rfl) (fun _ _ _ h => h) (by rfl) hS (fun wS hSw => ?_) #[true, false, false, false, false, false, false, false] rfl ?_; rotate_left
        · refine run_ld30 _ (.tmp 2) ?_ ?_ hSw.1.bx <;> rfl
        (try simp only [Act.put, List.setIfInBounds_toArray, List.set_cons_zero, List.set_cons_succ])
        refine h_take (v := ?_) 1 (some 47) rfl rfl (by kernel_rfl) (by kernel_rfl) (by kernel_rfl) (fun _ _ _ h => h) (by rfl) hS (fun wS hSw => ?_) #[true, true, false, false, false, false, false, false] rfl ?_; rotate_left
        · clear hSw; go_simp; first | done | with_reducible rfl
        (try simp only [Act.put, List.setIfInBounds_toArray, List.set_cons_zero, List.set_cons_succ])
        refine h_take (v := ?_) 3 (some 49) rfl rfl (by kernel_rfl) (by kernel_rfl) (by kernel_rfl) (fun _ _ _ h => h) (by rfl) hS (fun wS hSw => ?_) #[true, true, false, true, false, false, false, false] rfl ?_; rotate_left
        · refine run_ld30 _ (.tmp 2) ?_ ?_ hSw.1.bx <;> rfl
        (try simp only [Act.put, List.setIfInBounds_toArray, List.set_cons_zero, List.set_cons_succ])
        refine h_take (v := ?_) 4 (some 50) rfl rfl (by kernel_rfl) (by kernel_rfl) (by kernel_rfl) (fun _ _ _ h => h) (by rfl) hS (fun wS hSw => ?_) #[true, true, false, true, true, false, false, false] rfl ?_; rotate_left
        · clear hSw; go_simp; first | done | with_reducible rfl
        (try simp only [Act.put, List.setIfInBounds_toArray, List.set_cons_zero, List.set_cons_succ])
        refine h_call 2 (some 48) (by kernel_rfl) rfl rfl (by rfl) #[true, true, true, true, true, false, false, false] rfl (by go_simp; exact ⟨rfl, rfl⟩) ?_
        refine (make_any x F R rs rc _ (St.fnx hS.1 hF) (St.row hS.1 hR) (by omega) (by omega)).mono ?_
        rintro e wn ⟨A1, c1, es1, rfl, HE1, hown1, hbn⟩
        refine ⟨_, rfl, ?_, ?_⟩
        · exact ⟨St.next hS.1 hbn, hS.2.trans (hbn.mono hS.2.size)⟩
        have hS : _ ∧ _ := ⟨St.next hS.1 hbn, hS.2.trans (hbn.mono hS.2.size)⟩
        (try simp only [Act.put, List.setIfInBounds_toArray, List.set_cons_zero, List.set_cons_succ])
        refine h_call 5 (some 51) (by kernel_rfl) rfl rfl (by rfl) #[true, true, true, true, true, true, false, false] rfl (by go_simp; exact ⟨rfl, rfl⟩) ?_
        refine (rmake_any x F R rs rc _ (St.fn hS.1 hF.fn) (St.row hS.1 hR) (by omega) (by omega)).mono ?_
        rintro e wn ⟨A2, c2, es2, rfl, HE2, hown2, hbn⟩
        refine ⟨_, rfl, ?_, ?_⟩
        · exact ⟨St.next hS.1 hbn, hS.2.trans (hbn.mono hS.2.size)⟩
        have hS : _ ∧ _ := ⟨St.next hS.1 hbn, hS.2.trans (hbn.mono hS.2.size)⟩
        have hown1 := hown1.stay hbn
        (try simp only [Act.put, List.setIfInBounds_toArray, List.set_cons_zero, List.set_cons_succ])
        refine h_take (v := ?_) 6 (some 6) rfl rfl (by kernel_rfl) (by kernel_rfl) (by kernel_rfl) (fun _ _ _ h => h) (by rfl) hS (fun wS hSw => ?_) #[true, true, true, true, true, true, true, false] rfl ?_; rotate_left
        · clear hSw; go_simp; first | done | with_reducible rfl
        (try simp only [Act.put, List.setIfInBounds_toArray, List.set_cons_zero, List.set_cons_succ])
        refine h_take (v := ?_) 7 (some 7) rfl rfl (by kernel_rfl) (by kernel_rfl) (by kernel_rfl) (fun _ _ _ h => h) (by rfl) hS (fun wS hSw => ?_) #[true, true, true, true, true, true, true, true] rfl ?_; rotate_left
        · clear hSw; go_simp; first | done | with_reducible rfl
        (try simp only [Act.put, List.setIfInBounds_toArray, List.set_cons_zero, List.set_cons_succ])
        refine wpAnyH_done (by kernel_rfl) ?_ _
        have st := hS.1
        have hlen : es2.length = es1.length := by
          have h1 := congrArg List.length HE1.out
          have h2 := congrArg List.length HE2.out
          rw [List.length_map] at h1 h2
          omega
        have hl1 : es1.length ≤ 40 := by
          have h1 := congrArg List.length HE1.out
          rw [List.length_map] at h1
          have h2 : (makeF F rs).length ≤ F.code.length := by
            unfold makeF
            split
            · exact mkTo_length _ _ _
            · exact Nat.zero_le _
          omega
        rw [hlen]
        have Hlen := Lib.hid hlen
        clear hS hlen
        go_wp2
        go_loopg [8] es1.length (fun g s wr => ∃ (i : Nat), i ≤ es1.length ∧ g = es1.length - i ∧ s = .int .i64 i ∧ OwnR wr 0 A1 c1 es1 ∧ OwnR wr 0 A2 c2 es2 ∧ St w wr w.heap.size x F)
        case atStart => exact ⟨0, Nat.zero_le _, rfl, rfl, hown1.lower (Nat.zero_le _), hown2.lower (Nat.zero_le _), st⟩
        case round =>
          clear st hown1 hown2 ho h14 hxl
          obtain ⟨i, hi, rfl, rfl, hown1, hown2, st⟩ := hrel
          have hxl := st.bx.lt
          by_cases hlt2 : i < es1.length
          · obtain ⟨g1, ⟨r1, B1, d1⟩, hA1, he1, hg1, hr1, p0, p1, p2⟩ := hown1.at_ hlt2
            obtain ⟨g2, ⟨r2, B2, d2⟩, hA2, he2, hg2, hr2, q0, q1, q2⟩ := hown2.at_ (show i < es2.length by rw [Hlen.out]; exact hlt2)
            have hm1 : (makeF F rs)[i]? = some r1 := by rw [← HE1.out, List.getElem?_map, he1]; rfl
            have hm2 : (makeF F rs)[i]? = some r2 := by rw [← HE2.out, List.getElem?_map, he2]; rfl
            have hrr : r2 = r1 := by rw [hm1] at hm2; exact (Option.some.inj hm2).symm
            subst hrr
            have hpl := makeF_length (List.mem_of_getElem? hm1)
            have hix1 := ix28 hA1 hlt2 c1
            have hix2 := ix28 hA2 hlt2 c2
            simp only [Nat.zero_add] at hix1 hix2 p0 p1 p2 q0 q1 q2
            clear hA1 hA2 he1 he2 hm1 hm2
            go_wp2_with fail
            have hS : St w wr.drew w.heap.size x F ∧ Below wr.heap.size wr wr.drew := ⟨st.drew, (Below.refl _ _).drew⟩
            refine h_begin (S := fun w' => St w w' w.heap.size x F ∧ Below wr.heap.size wr w') 10 #[false, false, false, false, false, false, false, false, false, false] rfl rfl ?_
            refine h_take (v := ?_) 0 (some 63) rfl rfl (by kernel_rfl) (by kernel_rfl) (by kernel_rfl) (fun _ _ _ h => h) (by rfl) hS (fun wS hSw => ?_) #[true, false, false, false, false, false, false, false, false, false] rfl ?_; rotate_left
            · clear hSw; go_simp; first | done | with_reducible rfl
            (try simp only [Act.put, List.setIfInBounds_toArray, List.set_cons_zero, List.set_cons_succ])
            refine h_take (v := ?_) 1 (some 64) rfl rfl (by kernel_rfl) (by kernel_rfl) (by kernel_rfl) (fun _ _ _ h => h) (by rfl) hS (fun wS hSw => ?_) #[true, true, false, false, false, false, false, false, false, false] rfl ?_; rotate_left
            · clear hSw; go_simp; first | done | with_reducible rfl
            (try simp only [Act.put, List.setIfInBounds_toArray, List.set_cons_zero, List.set_cons_succ])
            refine h_take (v := ?_) 2 (some 65) rfl rfl (by kernel_rfl) (by kernel_rfl) (by kernel_rfl) (fun _ _ _ h => h) (by rfl) hS (fun wS hSw => ?_) #[true, true, true, false, false, false, false, false, false, false] rfl ?_; rotate_left
            · have hc := cells_of hSw.2; go_simp; first | done | with_reducible rfl
            (try simp only [Act.put, List.setIfInBounds_toArray, List.set_cons_zero, List.set_cons_succ])
            refine h_take (v := ?_) 3 (some 66) rfl rfl (by kernel_rfl) (by kernel_rfl) (by kernel_rfl) (fun _ _ _ h => h) (by rfl) hS (fun wS hSw => ?_) #[true, true, true, true, false, false, false, false, false, false] rfl ?_; rotate_left
            · have hc := cells_of hSw.2; go_simp; first | done | with_reducible rfl
            (try simp only [Act.put, List.setIfInBounds_toArray, List.set_cons_zero, List.set_cons_succ])
            refine h_take (v := ?_) 4 (some 67) rfl rfl (by kernel_rfl) (by kernel_rfl) (by kernel_rfl) (fun _ _ _ h => h) (by rfl) hS (fun wS hSw => ?_) #[true, true, true, true, true, false, false, false, false, false] rfl ?_; rotate_left
            · clear hSw; go_simp; first | done | with_reducible rfl
            (try simp only [Act.put, List.setIfInBounds_toArray, List.set_cons_zero, List.set_cons_succ])
            refine h_take (v := ?_) 5 (some 68) rfl rfl (by kernel_rfl) (by kernel_rfl) (by kernel_rfl) (fun _ _ _ h => h) (by rfl) hS (fun wS hSw => ?_) #[true, true, true, true, true, true, false, false, false, false] rfl ?_; rotate_left
            · clear hSw; go_simp; first | done | with_reducible rfl
            (try simp only [Act.put, List.setIfInBounds_toArray, List.set_cons_zero, List.set_cons_succ])
            refine h_take (v := ?_) 6 (some 69) rfl rfl (by kernel_rfl) (by kernel_rfl) (by kernel_rfl) (fun _ _ _ h => h) (by rfl) hS (fun wS hSw => ?_) #[true, true, true, true, true, true, true, false, false, false] rfl ?_; rotate_left
            · have hc := cells_of hSw.2; go_simp; first | done | with_reducible rfl
            (try simp only [Act.put, List.setIfInBounds_toArray, List.set_cons_zero, List.set_cons_succ])
            refine h_take (v := ?_) 7 (some 70) rfl rfl (by kernel_rfl) (by kernel_rfl) (by kernel_rfl) (fun _ _ _ h => h) (by rfl) hS (fun wS hSw => ?_) #[true, true, true, true, true, true, true, true, false, false] rfl ?_; rotate_left
            · have hc := cells_of hSw.2; go_simp; first | done | with_reducible rfl
            (try simp only [Act.put, List.setIfInBounds_toArray, List.set_cons_zero, List.set_cons_succ])
            refine h_call 8 (some 71) (by kernel_rfl) rfl rfl (by rfl) #[true, true, true, true, true, true, true, true, true, false] rfl (by go_simp; exact ⟨rfl, rfl⟩) ?_
            refine (same44_eq r2 B1 B2 d1 d2 _ (hr1.stay hS.2) (hr2.stay hS.2) (by omega)).mono ?_
            rintro e wn ⟨rfl, hbn⟩
            refine ⟨_, rfl, ?_, ?_⟩
            · exact ⟨St.next hS.1 hbn, hS.2.trans (hbn.mono hS.2.size)⟩
            have hS : _ ∧ _ := ⟨St.next hS.1 hbn, hS.2.trans (hbn.mono hS.2.size)⟩
            (try simp only [Act.put, List.setIfInBounds_toArray, List.set_cons_zero, List.set_cons_succ])
            refine h_take (v := ?_) 9 (some 72) rfl rfl (by kernel_rfl) (by kernel_rfl) (by kernel_rfl) (fun _ _ _ h => h) (by rfl) hS (fun wS hSw => ?_) #[true, true, true, true, true, true, true, true, true, true] rfl ?_; rotate_left
            · clear hSw; go_simp; first | done | with_reducible rfl
            (try simp only [Act.put, List.setIfInBounds_toArray, List.set_cons_zero, List.set_cons_succ])
            refine wpAnyH_done (by kernel_rfl) ?_ _
            have st := hS.1
            have hown1 := hown1.stay hS.2
            have hown2 := hown2.stay hS.2
            clear hS
            go_wp2
            go_roundg (es1.length - (i + 1))
            case measure => omega
            case rel => exact ⟨i + 1, by omega, rfl, by go_num, hown1, hown2, st⟩
          · go_wp2
            go_ret
            exact ⟨rfl, st.hb⟩
  · have hfew : (decide (F.code.length ≤ 40) && decide (F.hs.length ≤ 40) && decide (rs.length ≤ 1000)) = false := by simpa using hfew
    have Hfew := Lib.hid hfew
    clear hfew
    go_enter Try.func11, Try.ntmps11
    go_wp2_with (first | go_skip | ((with_reducible refine at_box 30 rfl ?_); refine bx30 _ rfl x F rfl rfl ?_; intro w1 hbx hb1 hs1; have st := St.new hbx hb1; have ho := st.old; have h14 := st.c14; have h15 := st.c15; clear hbx hb1 hs1) | ((with_reducible refine at_load 30 rfl ?_); refine ld30 _ rfl _ rfl x F (St.bx (by assumption)) rfl ?_) | (go_at_call 20; refine (awake16 _).mono ?_; rintro e wa ⟨rfl, hbn⟩; have st := St.next (by assumption) hbn; have h14 := st.c14; clear hbn) | (go_at_call 21; refine (few16 x F R rs.length rc _ false Hfew.out.symm).mono ?_; rintro e wf ⟨rfl, hbn⟩; have st := St.next (by assumption) hbn; have h14 := st.c14; clear hbn))
    go_ret
    exact ⟨rfl, st.hb⟩
end Go.Proofs.Ytnnhlnefhndpdaa
