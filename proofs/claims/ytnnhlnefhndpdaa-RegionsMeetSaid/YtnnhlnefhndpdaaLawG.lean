/- The walk of RegionsMeet: whatever comes in, it returns true and only makes memory. -/
import Derived.Test.YtnnhlnefhndpdaaPlain9
import Derived.Test.YtnnhlnefhndpdaaWalkS
import Derived.Test.YtnnhlnefhndpdaaWalkT
namespace Go.Proofs.Ytnnhlnefhndpdaa
open Go.RowKit
set_option linter.unusedSimpArgs false
set_option linter.unusedVariables false

theorem one_row (w : World) (v : Int) : Row (w.alloc (.cells #[.int .i64 v] 3)) 0 (some ⟨w.heap.size, 0, none⟩) (intsV [v]) := by
  refine .inr ⟨w.heap.size, 0, rfl, Nat.zero_le _, by simp, fun i u hu => ?_⟩
  rw [World.cell?_alloc_new]
  cases i with
  | zero => simpa [intsV] using hu
  | succ i => simp [intsV] at hu

set_option maxHeartbeats 8000000 in
set_option maxRecDepth 100000 in
theorem regionsMeet_walk (x : FX) (F : Fn) (R : Option Addr) (rs : List Bool) (rc : Nat) (a : Int) (w : World) (hF : FnX w x F) (hR : Row w 0 R (boolsV rs)) :
    Calls Try.prog 9 #[x.val F, .slice R rs.length rc, .int .i64 a] w fun e w' => e = .returned (.bool true) ∧ Below w.heap.size w w' := by
  by_cases hfew : (decide (F.code.length ≤ 40) && decide (F.hs.length ≤ 40) && decide (rs.length ≤ 1000)) = true
  · have hb3 : F.code.length ≤ 40 ∧ F.hs.length ≤ 40 ∧ rs.length ≤ 1000 := by simpa [and_assoc] using hfew
    obtain ⟨hb0, hb1, hb2⟩ := hb3
    have Hfew := Lib.hid hfew
    clear hfew
    have hah := fun (W : World) (h : FnAt W x F) => rahead_any x F W h (by omega) (by omega)
    cases ha : F.ahead
    all_goals
      rw [ha] at hah
      have Hah := Lib.hid hah
      clear hah
    · go_enter Try.func9, Try.ntmps9
      go_wp2_with (first | go_skip | ((with_reducible refine at_box 30 rfl ?_); refine bx30 _ rfl x F rfl rfl ?_; intro w1 hbx hb1 hs1; have st := St.new hbx hb1; have ho := st.old; have h14 := st.c14; have h15 := st.c15; clear hbx hb1 hs1) | ((with_reducible refine at_load 30 rfl ?_); refine ld30 _ rfl _ rfl x F (St.bx (by assumption)) rfl ?_) | (go_at_call 20; refine (awake16 _).mono ?_; rintro e wa ⟨rfl, hbn⟩; have st := St.next (by assumption) hbn; have h14 := st.c14; clear hbn) | (go_at_call 21; refine (few16 x F R rs.length rc _ true Hfew.out.symm).mono ?_; rintro e wf ⟨rfl, hbn⟩; have st := St.next (by assumption) hbn; have h14 := st.c14; clear hbn) | (go_at_call 24; refine (Hah.out _ (St.fn (by assumption) hF.fn)).mono ?_; rintro e wh ⟨rfl, hbn⟩; have st := St.next (by assumption) hbn; have h14 := st.c14; clear hbn))
      go_ret
      exact ⟨rfl, st.hb⟩
    · have Ha := Lib.hid ha
      clear ha
      by_cases h0 : a < 0
      · go_enter Try.func9, Try.ntmps9
        go_wp2_with (first | go_skip | ((with_reducible refine at_box 30 rfl ?_); refine bx30 _ rfl x F rfl rfl ?_; intro w1 hbx hb1 hs1; have st := St.new hbx hb1; have ho := st.old; have h14 := st.c14; have h15 := st.c15; clear hbx hb1 hs1) | ((with_reducible refine at_load 30 rfl ?_); refine ld30 _ rfl _ rfl x F (St.bx (by assumption)) rfl ?_) | (go_at_call 20; refine (awake16 _).mono ?_; rintro e wa ⟨rfl, hbn⟩; have st := St.next (by assumption) hbn; have h14 := st.c14; clear hbn) | (go_at_call 21; refine (few16 x F R rs.length rc _ true Hfew.out.symm).mono ?_; rintro e wf ⟨rfl, hbn⟩; have st := St.next (by assumption) hbn; have h14 := st.c14; clear hbn) | (go_at_call 24; refine (Hah.out _ (St.fn (by assumption) hF.fn)).mono ?_; rintro e wh ⟨rfl, hbn⟩; have st := St.next (by assumption) hbn; have h14 := st.c14; clear hbn))
        go_ret
        exact ⟨rfl, st.hb⟩
      · by_cases h1 : (F.code.length : Int) ≤ a
        · go_enter Try.func9, Try.ntmps9
          go_wp2_with (first | go_skip | ((with_reducible refine at_box 30 rfl ?_); refine bx30 _ rfl x F rfl rfl ?_; intro w1 hbx hb1 hs1; have st := St.new hbx hb1; have ho := st.old; have h14 := st.c14; have h15 := st.c15; clear hbx hb1 hs1) | ((with_reducible refine at_load 30 rfl ?_); refine ld30 _ rfl _ rfl x F (St.bx (by assumption)) rfl ?_) | (go_at_call 20; refine (awake16 _).mono ?_; rintro e wa ⟨rfl, hbn⟩; have st := St.next (by assumption) hbn; have h14 := st.c14; clear hbn) | (go_at_call 21; refine (few16 x F R rs.length rc _ true Hfew.out.symm).mono ?_; rintro e wf ⟨rfl, hbn⟩; have st := St.next (by assumption) hbn; have h14 := st.c14; clear hbn) | (go_at_call 24; refine (Hah.out _ (St.fn (by assumption) hF.fn)).mono ?_; rintro e wh ⟨rfl, hbn⟩; have st := St.next (by assumption) hbn; have h14 := st.c14; clear hbn))
          go_ret
          exact ⟨rfl, st.hb⟩
        · obtain ⟨k, rfl⟩ := Int.eq_ofNat_of_zero_le (show 0 ≤ a by omega)
          have hk : k < F.code.length := by omega
          have hjn := fun (W : World) (g1 : FnX W x F) (g2 : Row W 0 R (boolsV rs)) => join_any x F R rs rc k W g1 g2 (by omega) (by omega)
          rw [joinF_yes (rs := rs) (Fn.place_of_nat hk) Ha.out] at hjn
          rcases jn_range F rs k with hj | ⟨m, hj, hmn⟩
          · rw [hj] at hjn
            have Hjn := Lib.hid hjn
            clear hjn
            go_enter Try.func9, Try.ntmps9
            go_wp2_with (first | go_skip | ((with_reducible refine at_box 30 rfl ?_); refine bx30 _ rfl x F rfl rfl ?_; intro w1 hbx hb1 hs1; have st := St.new hbx hb1; have ho := st.old; have h14 := st.c14; have h15 := st.c15; clear hbx hb1 hs1) | ((with_reducible refine at_load 30 rfl ?_); refine ld30 _ rfl _ rfl x F (St.bx (by assumption)) rfl ?_) | (go_at_call 20; refine (awake16 _).mono ?_; rintro e wa ⟨rfl, hbn⟩; have st := St.next (by assumption) hbn; have h14 := st.c14; clear hbn) | (go_at_call 21; refine (few16 x F R rs.length rc _ true Hfew.out.symm).mono ?_; rintro e wf ⟨rfl, hbn⟩; have st := St.next (by assumption) hbn; have h14 := st.c14; clear hbn) | (go_at_call 24; refine (Hah.out _ (St.fn (by assumption) hF.fn)).mono ?_; rintro e wh ⟨rfl, hbn⟩; have st := St.next (by assumption) hbn; have h14 := st.c14; clear hbn) | (go_at_call 26; refine (Hjn.out _ (St.fnx (by assumption) hF) (St.row (by assumption) hR)).mono ?_; rintro e wj ⟨rfl, hbn⟩; have st := St.next (by assumption) hbn; have h14 := st.c14; clear hbn; have hxj := st.bx.lt))
            go_ret
            exact ⟨rfl, st.hb⟩
          · rw [hj] at hjn
            have Hjn := Lib.hid hjn
            have Hj := Lib.hid hj
            have hw3 := Fn.ways_length F rs k
            have hm1 : ((m : Int) == -1) = false := by simp
            clear hjn hj
            go_enter Try.func9, Try.ntmps9
            go_upto_region 6 with (first | go_skip | ((with_reducible refine at_box 30 rfl ?_); refine bx30 _ rfl x F rfl rfl ?_; intro w1 hbx hb1 hs1; have st := St.new hbx hb1; have ho := st.old; have h14 := st.c14; have h15 := st.c15; clear hbx hb1 hs1) | ((with_reducible refine at_load 30 rfl ?_); refine ld30 _ rfl _ rfl x F (St.bx (by assumption)) rfl ?_) | (go_at_call 20; refine (awake16 _).mono ?_; rintro e wa ⟨rfl, hbn⟩; have st := St.next (by assumption) hbn; have h14 := st.c14; clear hbn) | (go_at_call 21; refine (few16 x F R rs.length rc _ true Hfew.out.symm).mono ?_; rintro e wf ⟨rfl, hbn⟩; have st := St.next (by assumption) hbn; have h14 := st.c14; clear hbn) | (go_at_call 24; refine (Hah.out _ (St.fn (by assumption) hF.fn)).mono ?_; rintro e wh ⟨rfl, hbn⟩; have st := St.next (by assumption) hbn; have h14 := st.c14; clear hbn) | (go_at_call 26; refine (Hjn.out _ (St.fnx (by assumption) hF) (St.row (by assumption) hR)).mono ?_; rintro e wj ⟨rfl, hbn⟩; have st := St.next (by assumption) hbn; have h14 := st.c14; clear hbn; have hxj := st.bx.lt))
            have hS : St w wj.drew w.heap.size x F ∧ Below wj.heap.size wj wj.drew := ⟨st.drew, (Below.refl _ _).drew⟩
            refine h_begin (S := fun w' => St w w' w.heap.size x F ∧ Below wj.heap.size wj w') 9 #[false, false, false, false, false, false, false, false, false] rfl rfl ?_
            refine h_take (v := ?_) 0 (some 41) rfl rfl (by kernel_rfl) (by kernel_rfl) (by kernel_rfl) (fun _ _ _ h => h) (by rfl) hS (fun wS hSw => ?_) #[true, false, false, false, false, false, false, false, false] rfl ?_; rotate_left
            · refine run_ld30 _ (.tmp 3) ?_ ?_ hSw.1.bx <;> rfl
            (try simp only [Act.put, List.setIfInBounds_toArray, List.set_cons_zero, List.set_cons_succ])
            refine h_take (v := ?_) 1 (some 42) rfl rfl (by kernel_rfl) (by kernel_rfl) (by kernel_rfl) (fun _ _ _ h => h) (by rfl) hS (fun wS hSw => ?_) #[true, true, false, false, false, false, false, false, false] rfl ?_; rotate_left
            · clear hSw; go_simp; first | done | with_reducible rfl
            (try simp only [Act.put, List.setIfInBounds_toArray, List.set_cons_zero, List.set_cons_succ])
            refine h_take (v := ?_) 2 (some 43) rfl rfl (by kernel_rfl) (by kernel_rfl) (by kernel_rfl) (fun _ _ _ h => h) (by rfl) hS (fun wS hSw => ?_) #[true, true, true, false, false, false, false, false, false] rfl ?_; rotate_left
            · refine run_ld30 _ (.tmp 3) ?_ ?_ hSw.1.bx <;> rfl
            (try simp only [Act.put, List.setIfInBounds_toArray, List.set_cons_zero, List.set_cons_succ])
            refine h_take (v := ?_) 3 (some 44) rfl rfl (by kernel_rfl) (by kernel_rfl) (by kernel_rfl) (fun _ _ _ h => h) (by rfl) hS (fun wS hSw => ?_) #[true, true, true, true, false, false, false, false, false] rfl ?_; rotate_left
            · clear hSw; go_simp; first | done | with_reducible rfl
            (try simp only [Act.put, List.setIfInBounds_toArray, List.set_cons_zero, List.set_cons_succ])
            refine h_take (v := ?_) 4 (some 45) rfl rfl (by kernel_rfl) (by kernel_rfl) (by kernel_rfl) (fun _ _ _ h => h) (by rfl) hS (fun wS hSw => ?_) #[true, true, true, true, true, false, false, false, false] rfl ?_; rotate_left
            · clear hSw; go_simp; first | done | with_reducible rfl
            (try simp only [Act.put, List.setIfInBounds_toArray, List.set_cons_zero, List.set_cons_succ])
            refine h_take (v := ?_) 6 (some 47) rfl rfl (by kernel_rfl) (by kernel_rfl) (by kernel_rfl) (fun _ _ _ h => h) (by rfl) hS (fun wS hSw => ?_) #[true, true, true, true, true, false, true, false, false] rfl ?_; rotate_left
            · clear hSw; go_simp; first | done | with_reducible rfl
            (try simp only [Act.put, List.setIfInBounds_toArray, List.set_cons_zero, List.set_cons_succ])
            refine h_call 5 (some 46) (by kernel_rfl) rfl rfl (by rfl) #[true, true, true, true, true, true, true, false, false] rfl (by go_simp; exact ⟨rfl, rfl⟩) ?_
            refine (ways_any x F R rs rc k _ (St.fn hS.1 hF.fn) (St.row hS.1 hR) (by omega) (by omega)).mono ?_
            rintro e wn ⟨A2, c2, rfl, hown2, hbn⟩
            refine ⟨_, rfl, ?_, ?_⟩
            · exact ⟨St.next hS.1 hbn, hS.2.trans (hbn.mono hS.2.size)⟩
            have hS : _ ∧ _ := ⟨St.next hS.1 hbn, hS.2.trans (hbn.mono hS.2.size)⟩
            (try simp only [Act.put, List.setIfInBounds_toArray, List.set_cons_zero, List.set_cons_succ])
            refine h_call 7 (some 48) (by kernel_rfl) rfl rfl (by rfl) #[true, true, true, true, true, true, true, true, false] rfl (by go_simp; exact ⟨rfl, rfl⟩) ?_
            refine (reach_any x F R A2 rs rc (F.ways rs k) c2 m _ (St.fn hS.1 hF.fn) (St.row hS.1 hR) (hown2.row.lower (Nat.zero_le _)) (by omega) (by omega) (by omega)).mono ?_
            rintro e wn ⟨A3, c3, rfl, hown3, hbn⟩
            refine ⟨_, rfl, ?_, ?_⟩
            · exact ⟨St.next hS.1 hbn, hS.2.trans (hbn.mono hS.2.size)⟩
            have hS : _ ∧ _ := ⟨St.next hS.1 hbn, hS.2.trans (hbn.mono hS.2.size)⟩
            (try simp only [Act.put, List.setIfInBounds_toArray, List.set_cons_zero, List.set_cons_succ])
            refine h_take (v := ?_) 8 (some 8) rfl rfl (by kernel_rfl) (by kernel_rfl) (by kernel_rfl) (fun _ _ _ h => h) (by rfl) hS (fun wS hSw => ?_) #[true, true, true, true, true, true, true, true, true] rfl ?_; rotate_left
            · clear hSw; go_simp; first | done | with_reducible rfl
            (try simp only [Act.put, List.setIfInBounds_toArray, List.set_cons_zero, List.set_cons_succ])
            refine wpAnyH_done (by kernel_rfl) ?_ _
            have st := hS.1
            have hown3 := hown3.lower (Nat.zero_le _)
            have HG := Lib.hid (fun y h => @meet_region F rs k Ha.out m Hj.out y h)
            have hLl := reachL_length F rs (F.ways rs k) m
            have Hjr := Lib.hid (join_reached (Fn.place_of_nat hk) Hj.out)
            clear hS hown2
            generalize reachL F rs (F.ways rs k) m = L at *
            go_wp2
            go_loopg [9] L.length (fun g s wr => ∃ (i : Nat), i ≤ L.length ∧ g = L.length - i ∧ s = .int .i64 i ∧ Own wr 0 A3 c3 L ∧ St w wr w.heap.size x F)
            case atStart => exact ⟨0, Nat.zero_le _, rfl, rfl, hown3, st⟩
            case round =>
              clear st hown3
              obtain ⟨i, hi, rfl, rfl, hown3, st⟩ := hrel
              have ho := st.old
              have h14 := st.c14
              have hxl := st.bx.lt
              by_cases hlt : i < L.length
              · obtain ⟨B, off, hA', -, hB, h0'⟩ := hown3.row.int_at hlt
                have hix := ix32 hA' hlt c3
                have hg := HG.out _ (getD_mem hlt)
                have hlv := fun W h1 h2 => leaves_any x F R rs rc (L.getD i 0) W h1 h2 (by omega)
                have hcall := fun W h1 h2 => ways_any x F R rs rc (L.getD i 0) W h1 h2 (by omega) (by omega)
                rw [hg.1] at hlv
                have hw3' := Fn.ways_length F rs (L.getD i 0)
                clear hA'
                generalize L.getD i 0 = z at *
                obtain ⟨-, hg2, hg3, -⟩ := hg
                generalize F.ways rs z = ws at *
                have hne : ((ws.length : Int) == 0) = false := by simpa using hg2
                have hgt : decide ((m : Int) < z) = false := by simpa using hg3
                have Hlv := Lib.hid hlv
                have Hcall := Lib.hid hcall
                clear hlv hcall hg2 hg3
                go_wp2_with fail
                have hS : St w wr.drew w.heap.size x F ∧ Below wr.heap.size wr wr.drew := ⟨st.drew, (Below.refl _ _).drew⟩
                refine h_begin (S := fun w' => St w w' w.heap.size x F ∧ Below wr.heap.size wr w') 26 #[false, false, false, false, false, false, false, false, false, false, false, false, false, false, false, false, false, false, false, false, false, false, false, false, false, false] rfl rfl ?_
                refine h_take (v := ?_) 0 (some 55) rfl rfl (by kernel_rfl) (by kernel_rfl) (by kernel_rfl) (fun _ _ _ h => h) (by rfl) hS (fun wS hSw => ?_) #[true, false, false, false, false, false, false, false, false, false, false, false, false, false, false, false, false, false, false, false, false, false, false, false, false, false] rfl ?_; rotate_left
                · refine run_ld30 _ (.tmp 3) ?_ ?_ hSw.1.bx <;> rfl
                (try simp only [Act.put, List.setIfInBounds_toArray, List.set_cons_zero, List.set_cons_succ])
                refine h_take (v := ?_) 1 (some 56) rfl rfl (by kernel_rfl) (by kernel_rfl) (by kernel_rfl) (fun _ _ _ h => h) (by rfl) hS (fun wS hSw => ?_) #[true, true, false, false, false, false, false, false, false, false, false, false, false, false, false, false, false, false, false, false, false, false, false, false, false, false] rfl ?_; rotate_left
                · clear hSw; go_simp; first | done | with_reducible rfl
                (try simp only [Act.put, List.setIfInBounds_toArray, List.set_cons_zero, List.set_cons_succ])
                refine h_take (v := ?_) 2 (some 57) rfl rfl (by kernel_rfl) (by kernel_rfl) (by kernel_rfl) (fun _ _ _ h => h) (by rfl) hS (fun wS hSw => ?_) #[true, true, true, false, false, false, false, false, false, false, false, false, false, false, false, false, false, false, false, false, false, false, false, false, false, false] rfl ?_; rotate_left
                · clear hSw; go_simp; first | done | with_reducible rfl
                (try simp only [Act.put, List.setIfInBounds_toArray, List.set_cons_zero, List.set_cons_succ])
                refine h_take (v := ?_) 3 (some 58) rfl rfl (by kernel_rfl) (by kernel_rfl) (by kernel_rfl) (fun _ _ _ h => h) (by rfl) hS (fun wS hSw => ?_) #[true, true, true, true, false, false, false, false, false, false, false, false, false, false, false, false, false, false, false, false, false, false, false, false, false, false] rfl ?_; rotate_left
                · clear hSw; go_simp; first | done | with_reducible rfl
                (try simp only [Act.put, List.setIfInBounds_toArray, List.set_cons_zero, List.set_cons_succ])
                refine h_take (v := ?_) 4 (some 59) rfl rfl (by kernel_rfl) (by kernel_rfl) (by kernel_rfl) (fun _ _ _ h => h) (by rfl) hS (fun wS hSw => ?_) #[true, true, true, true, true, false, false, false, false, false, false, false, false, false, false, false, false, false, false, false, false, false, false, false, false, false] rfl ?_; rotate_left
                · have hc := cells_of hSw.2; go_simp; first | done | with_reducible rfl
                (try simp only [Act.put, List.setIfInBounds_toArray, List.set_cons_zero, List.set_cons_succ])
                refine h_take (v := ?_) 5 (some 60) rfl rfl (by kernel_rfl) (by kernel_rfl) (by kernel_rfl) (fun _ _ _ h => h) (by rfl) hS (fun wS hSw => ?_) #[true, true, true, true, true, true, false, false, false, false, false, false, false, false, false, false, false, false, false, false, false, false, false, false, false, false] rfl ?_; rotate_left
                · have hc := cells_of hSw.2; go_simp; first | done | with_reducible rfl
                (try simp only [Act.put, List.setIfInBounds_toArray, List.set_cons_zero, List.set_cons_succ])
                refine h_call 6 (some 61) (by kernel_rfl) rfl rfl (by rfl) #[true, true, true, true, true, true, true, false, false, false, false, false, false, false, false, false, false, false, false, false, false, false, false, false, false, false] rfl (by go_simp; exact ⟨rfl, rfl⟩) ?_
                refine (Hlv.out _ (St.fn hS.1 hF.fn) (St.row hS.1 hR)).mono ?_
                rintro e wn ⟨rfl, hbn⟩
                refine ⟨_, rfl, ?_, ?_⟩
                · exact ⟨St.next hS.1 hbn, hS.2.trans (hbn.mono hS.2.size)⟩
                have hS : _ ∧ _ := ⟨St.next hS.1 hbn, hS.2.trans (hbn.mono hS.2.size)⟩
                (try simp only [Act.put, List.setIfInBounds_toArray, List.set_cons_zero, List.set_cons_succ])
                refine h_take (v := ?_) 7 (some 62) rfl rfl (by kernel_rfl) (by kernel_rfl) (by kernel_rfl) (fun _ _ _ h => h) (by rfl) hS (fun wS hSw => ?_) #[true, true, true, true, true, true, true, true, false, false, false, false, false, false, false, false, false, false, false, false, false, false, false, false, false, false] rfl ?_; rotate_left
                · clear hSw; go_simp; first | done | with_reducible rfl
                (try simp only [Act.put, List.setIfInBounds_toArray, List.set_cons_zero, List.set_cons_succ])
                refine h_take (v := ?_) 8 (some 63) rfl rfl (by kernel_rfl) (by kernel_rfl) (by kernel_rfl) (fun _ _ _ h => h) (by rfl) hS (fun wS hSw => ?_) #[true, true, true, true, true, true, true, true, true, false, false, false, false, false, false, false, false, false, false, false, false, false, false, false, false, false] rfl ?_; rotate_left
                · refine run_ld30 _ (.tmp 3) ?_ ?_ hSw.1.bx <;> rfl
                (try simp only [Act.put, List.setIfInBounds_toArray, List.set_cons_zero, List.set_cons_succ])
                refine h_take (v := ?_) 9 (some 64) rfl rfl (by kernel_rfl) (by kernel_rfl) (by kernel_rfl) (fun _ _ _ h => h) (by rfl) hS (fun wS hSw => ?_) #[true, true, true, true, true, true, true, true, true, true, false, false, false, false, false, false, false, false, false, false, false, false, false, false, false, false] rfl ?_; rotate_left
                · clear hSw; go_simp; first | done | with_reducible rfl
                (try simp only [Act.put, List.setIfInBounds_toArray, List.set_cons_zero, List.set_cons_succ])
                refine h_take (v := ?_) 10 (some 65) rfl rfl (by kernel_rfl) (by kernel_rfl) (by kernel_rfl) (fun _ _ _ h => h) (by rfl) hS (fun wS hSw => ?_) #[true, true, true, true, true, true, true, true, true, true, true, false, false, false, false, false, false, false, false, false, false, false, false, false, false, false] rfl ?_; rotate_left
                · clear hSw; go_simp; first | done | with_reducible rfl
                (try simp only [Act.put, List.setIfInBounds_toArray, List.set_cons_zero, List.set_cons_succ])
                refine h_take (v := ?_) 11 (some 66) rfl rfl (by kernel_rfl) (by kernel_rfl) (by kernel_rfl) (fun _ _ _ h => h) (by rfl) hS (fun wS hSw => ?_) #[true, true, true, true, true, true, true, true, true, true, true, true, false, false, false, false, false, false, false, false, false, false, false, false, false, false] rfl ?_; rotate_left
                · clear hSw; go_simp; first | done | with_reducible rfl
                (try simp only [Act.put, List.setIfInBounds_toArray, List.set_cons_zero, List.set_cons_succ])
                refine h_take (v := ?_) 12 (some 67) rfl rfl (by kernel_rfl) (by kernel_rfl) (by kernel_rfl) (fun _ _ _ h => h) (by rfl) hS (fun wS hSw => ?_) #[true, true, true, true, true, true, true, true, true, true, true, true, true, false, false, false, false, false, false, false, false, false, false, false, false, false] rfl ?_; rotate_left
                · have hc := cells_of hSw.2; go_simp; first | done | with_reducible rfl
                (try simp only [Act.put, List.setIfInBounds_toArray, List.set_cons_zero, List.set_cons_succ])
                refine h_take (v := ?_) 13 (some 68) rfl rfl (by kernel_rfl) (by kernel_rfl) (by kernel_rfl) (fun _ _ _ h => h) (by rfl) hS (fun wS hSw => ?_) #[true, true, true, true, true, true, true, true, true, true, true, true, true, true, false, false, false, false, false, false, false, false, false, false, false, false] rfl ?_; rotate_left
                · have hc := cells_of hSw.2; go_simp; first | done | with_reducible rfl
                (try simp only [Act.put, List.setIfInBounds_toArray, List.set_cons_zero, List.set_cons_succ])
                refine h_call 14 (some 69) (by kernel_rfl) rfl rfl (by rfl) #[true, true, true, true, true, true, true, true, true, true, true, true, true, true, true, false, false, false, false, false, false, false, false, false, false, false] rfl (by go_simp; exact ⟨rfl, rfl⟩) ?_
                refine (Hcall.out _ (St.fn hS.1 hF.fn) (St.row hS.1 hR)).mono ?_
                rintro e wn ⟨A4, c4, rfl, hown4, hbn⟩
                refine ⟨_, rfl, ?_, ?_⟩
                · exact ⟨St.next hS.1 hbn, hS.2.trans (hbn.mono hS.2.size)⟩
                have hS : _ ∧ _ := ⟨St.next hS.1 hbn, hS.2.trans (hbn.mono hS.2.size)⟩
                (try simp only [Act.put, List.setIfInBounds_toArray, List.set_cons_zero, List.set_cons_succ])
                refine h_take (v := ?_) 15 (some 70) rfl rfl (by kernel_rfl) (by kernel_rfl) (by kernel_rfl) (fun _ _ _ h => h) (by rfl) hS (fun wS hSw => ?_) #[true, true, true, true, true, true, true, true, true, true, true, true, true, true, true, true, false, false, false, false, false, false, false, false, false, false] rfl ?_; rotate_left
                · clear hSw; go_simp; first | done | with_reducible rfl
                (try simp only [Act.put, List.setIfInBounds_toArray, List.set_cons_zero, List.set_cons_succ])
                refine h_take (v := ?_) 16 (some 71) rfl rfl (by kernel_rfl) (by kernel_rfl) (by kernel_rfl) (fun _ _ _ h => h) (by rfl) hS (fun wS hSw => ?_) #[true, true, true, true, true, true, true, true, true, true, true, true, true, true, true, true, true, false, false, false, false, false, false, false, false, false] rfl ?_; rotate_left
                · clear hSw; go_simp; first | done | with_reducible rfl
                (try simp only [Act.put, List.setIfInBounds_toArray, List.set_cons_zero, List.set_cons_succ])
                refine h_take (v := ?_) 17 (some 72) rfl rfl (by kernel_rfl) (by kernel_rfl) (by kernel_rfl) (fun _ _ _ h => h) (by rfl) hS (fun wS hSw => ?_) #[true, true, true, true, true, true, true, true, true, true, true, true, true, true, true, true, true, true, false, false, false, false, false, false, false, false] rfl ?_; rotate_left
                · clear hSw; go_simp; first | done | with_reducible rfl
                (try simp only [Act.put, List.setIfInBounds_toArray, List.set_cons_zero, List.set_cons_succ])
                refine h_take (v := ?_) 18 (some 73) rfl rfl (by kernel_rfl) (by kernel_rfl) (by kernel_rfl) (fun _ _ _ h => h) (by rfl) hS (fun wS hSw => ?_) #[true, true, true, true, true, true, true, true, true, true, true, true, true, true, true, true, true, true, true, false, false, false, false, false, false, false] rfl ?_; rotate_left
                · clear hSw; go_simp; first | done | with_reducible rfl
                (try simp only [Act.put, List.setIfInBounds_toArray, List.set_cons_zero, List.set_cons_succ])
                refine h_take (v := ?_) 19 (some 74) rfl rfl (by kernel_rfl) (by kernel_rfl) (by kernel_rfl) (fun _ _ _ h => h) (by rfl) hS (fun wS hSw => ?_) #[true, true, true, true, true, true, true, true, true, true, true, true, true, true, true, true, true, true, true, true, false, false, false, false, false, false] rfl ?_; rotate_left
                · clear hSw; go_simp; first | done | with_reducible rfl
                (try simp only [Act.put, List.setIfInBounds_toArray, List.set_cons_zero, List.set_cons_succ])
                refine h_take (v := ?_) 20 (some 75) rfl rfl (by kernel_rfl) (by kernel_rfl) (by kernel_rfl) (fun _ _ _ h => h) (by rfl) hS (fun wS hSw => ?_) #[true, true, true, true, true, true, true, true, true, true, true, true, true, true, true, true, true, true, true, true, true, false, false, false, false, false] rfl ?_; rotate_left
                · clear hSw; go_simp; first | done | with_reducible rfl
                (try simp only [Act.put, List.setIfInBounds_toArray, List.set_cons_zero, List.set_cons_succ])
                refine h_take (v := ?_) 21 (some 76) rfl rfl (by kernel_rfl) (by kernel_rfl) (by kernel_rfl) (fun _ _ _ h => h) (by rfl) hS (fun wS hSw => ?_) #[true, true, true, true, true, true, true, true, true, true, true, true, true, true, true, true, true, true, true, true, true, true, false, false, false, false] rfl ?_; rotate_left
                · have hc := cells_of hSw.2; go_simp; first | done | with_reducible rfl
                (try simp only [Act.put, List.setIfInBounds_toArray, List.set_cons_zero, List.set_cons_succ])
                refine h_take (v := ?_) 22 (some 77) rfl rfl (by kernel_rfl) (by kernel_rfl) (by kernel_rfl) (fun _ _ _ h => h) (by rfl) hS (fun wS hSw => ?_) #[true, true, true, true, true, true, true, true, true, true, true, true, true, true, true, true, true, true, true, true, true, true, true, false, false, false] rfl ?_; rotate_left
                · have hc := cells_of hSw.2; go_simp; first | done | with_reducible rfl
                (try simp only [Act.put, List.setIfInBounds_toArray, List.set_cons_zero, List.set_cons_succ])
                refine h_take (v := ?_) 23 (some 78) rfl rfl (by kernel_rfl) (by kernel_rfl) (by kernel_rfl) (fun _ _ _ h => h) (by rfl) hS (fun wS hSw => ?_) #[true, true, true, true, true, true, true, true, true, true, true, true, true, true, true, true, true, true, true, true, true, true, true, true, false, false] rfl ?_; rotate_left
                · clear hSw; go_simp; first | done | with_reducible rfl
                (try simp only [Act.put, List.setIfInBounds_toArray, List.set_cons_zero, List.set_cons_succ])
                refine h_take (v := ?_) 24 (some 79) rfl rfl (by kernel_rfl) (by kernel_rfl) (by kernel_rfl) (fun _ _ _ h => h) (by rfl) hS (fun wS hSw => ?_) #[true, true, true, true, true, true, true, true, true, true, true, true, true, true, true, true, true, true, true, true, true, true, true, true, true, false] rfl ?_; rotate_left
                · clear hSw; go_simp; first | done | with_reducible rfl
                (try simp only [Act.put, List.setIfInBounds_toArray, List.set_cons_zero, List.set_cons_succ])
                refine h_take (v := ?_) 25 (some 80) rfl rfl (by kernel_rfl) (by kernel_rfl) (by kernel_rfl) (fun _ _ _ h => h) (by rfl) hS (fun wS hSw => ?_) #[true, true, true, true, true, true, true, true, true, true, true, true, true, true, true, true, true, true, true, true, true, true, true, true, true, true] rfl ?_; rotate_left
                · clear hSw; go_simp; first | done | with_reducible rfl
                (try simp only [Act.put, List.setIfInBounds_toArray, List.set_cons_zero, List.set_cons_succ])
                refine wpAnyH_done (by kernel_rfl) ?_ _
                have st := hS.1
                have hown3 := hown3.stay hS.2
                clear hS
                go_wp2
                go_roundg (L.length - (i + 1))
                case measure => omega
                case rel => exact ⟨i + 1, by omega, rfl, by go_num, hown3, st⟩
              · have hmn' : (m : Int) < F.code.length := by omega
                have stA := St.alloc st (.cells #[.int .i64 (k : Int)] 3)
                go_wp2_with (first | ((with_reducible refine at_load 30 rfl ?_); refine ld30 _ rfl _ rfl x F (St.bx (by assumption)) rfl ?_) | (go_at_call 16; refine (reach_any x F R _ rs rc [(k : Int)] _ (-1) _ (St.fn (by assumption) hF.fn) (St.row (by assumption) hR) (one_row _ _) (by omega) (by omega) (by simp)).mono ?_; rintro e wn ⟨A5, c5, rfl, hown5, hbn⟩; have st := St.next (by assumption) hbn; have h14 := st.c14; clear hbn) | (go_at_call 18; refine (in_is A5 (reachL F rs [(k : Int)] (-1)) c5 m _ true (hown5.row.lower (Nat.zero_le _)) (by have := reachL_length F rs [(k : Int)] (-1); omega) (decide_eq_true Hjr.out)).mono ?_; rintro e wn ⟨rfl, hbn⟩; have st := St.next (by assumption) hbn; have h14 := st.c14; clear hbn))
                go_ret
                exact ⟨rfl, st.hb⟩
  · have hfew : (decide (F.code.length ≤ 40) && decide (F.hs.length ≤ 40) && decide (rs.length ≤ 1000)) = false := by simpa using hfew
    have Hfew := Lib.hid hfew
    clear hfew
    go_enter Try.func9, Try.ntmps9
    go_wp2_with (first | go_skip | ((with_reducible refine at_box 30 rfl ?_); refine bx30 _ rfl x F rfl rfl ?_; intro w1 hbx hb1 hs1; have st := St.new hbx hb1; have ho := st.old; have h14 := st.c14; have h15 := st.c15; clear hbx hb1 hs1) | ((with_reducible refine at_load 30 rfl ?_); refine ld30 _ rfl _ rfl x F (St.bx (by assumption)) rfl ?_) | (go_at_call 20; refine (awake16 _).mono ?_; rintro e wa ⟨rfl, hbn⟩; have st := St.next (by assumption) hbn; have h14 := st.c14; clear hbn) | (go_at_call 21; refine (few16 x F R rs.length rc _ false Hfew.out.symm).mono ?_; rintro e wf ⟨rfl, hbn⟩; have st := St.next (by assumption) hbn; have h14 := st.c14; clear hbn))
    go_ret
    exact ⟨rfl, st.hb⟩
end Go.Proofs.Ytnnhlnefhndpdaa
