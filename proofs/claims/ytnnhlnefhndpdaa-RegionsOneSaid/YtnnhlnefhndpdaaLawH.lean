/- The walk of RegionsOne: whatever comes in, it returns true and only makes memory. -/
import Derived.Test.YtnnhlnefhndpdaaPlain9
import Derived.Test.YtnnhlnefhndpdaaWalkS
import Derived.Test.YtnnhlnefhndpdaaWalkE
namespace Go.Proofs.Ytnnhlnefhndpdaa
open Go.RowKit
set_option linter.unusedSimpArgs false
set_option linter.unusedVariables false

set_option maxHeartbeats 8000000 in
set_option maxRecDepth 100000 in
theorem regionsOne_walk (x : FX) (F : Fn) (R : Option Addr) (rs : List Bool) (rc : Nat) (w : World) (hF : FnX w x F) (hR : Row w 0 R (boolsV rs)) :
    Calls Try.prog 10 #[x.val F, .slice R rs.length rc] w fun e w' => e = .returned (.bool true) ∧ Below w.heap.size w w' := by
  by_cases hfew : (decide (F.code.length ≤ 40) && decide (F.hs.length ≤ 40) && decide (rs.length ≤ 1000)) = true
  · have hb3 : F.code.length ≤ 40 ∧ F.hs.length ≤ 40 ∧ rs.length ≤ 1000 := by simpa [and_assoc] using hfew
    obtain ⟨hb0, hb1, hb2⟩ := hb3
    have Hfew := Lib.hid hfew
    clear hfew
    have hah := fun (W : World) (h : FnAt W x F) => rahead_any x F W h (by omega) (by omega)
    cases ha : F.ahead
    all_goals
      rw [ha] at hah
      have Hah := Lib.hid hah
      clear hah
    · go_enter Try.func10, Try.ntmps10
      go_wp2_with (first | go_skip | ((with_reducible refine at_box 30 rfl ?_); refine bx30 _ rfl x F rfl rfl ?_; intro w1 hbx hb1 hs1; have st := St.new hbx hb1; have ho := st.old; have h14 := st.c14; have h15 := st.c15; clear hbx hb1 hs1) | ((with_reducible refine at_load 30 rfl ?_); refine ld30 _ rfl _ rfl x F (St.bx (by assumption)) rfl ?_) | (go_at_call 20; refine (awake16 _).mono ?_; rintro e wa ⟨rfl, hbn⟩; have st := St.next (by assumption) hbn; have h14 := st.c14; clear hbn) | (go_at_call 21; refine (few16 x F R rs.length rc _ true Hfew.out.symm).mono ?_; rintro e wf ⟨rfl, hbn⟩; have st := St.next (by assumption) hbn; have h14 := st.c14; clear hbn) | (go_at_call 24; refine (Hah.out _ (St.fn (by assumption) hF.fn)).mono ?_; rintro e wh ⟨rfl, hbn⟩; have st := St.next (by assumption) hbn; have h14 := st.c14; clear hbn))
      go_ret
      exact ⟨rfl, st.hb⟩
    · have Ha := Lib.hid ha
      clear ha
      go_enter Try.func10, Try.ntmps10
      go_wp2_with (first | go_skip | ((with_reducible refine at_box 30 rfl ?_); refine bx30 _ rfl x F rfl rfl ?_; intro w1 hbx hb1 hs1; have st := St.new hbx hb1; have ho := st.old; have h14 := st.c14; have h15 := st.c15; clear hbx hb1 hs1) | ((with_reducible refine at_load 30 rfl ?_); refine ld30 _ rfl _ rfl x F (St.bx (by assumption)) rfl ?_) | (go_at_call 20; refine (awake16 _).mono ?_; rintro e wa ⟨rfl, hbn⟩; have st := St.next (by assumption) hbn; have h14 := st.c14; clear hbn) | (go_at_call 21; refine (few16 x F R rs.length rc _ true Hfew.out.symm).mono ?_; rintro e wf ⟨rfl, hbn⟩; have st := St.next (by assumption) hbn; have h14 := st.c14; clear hbn) | (go_at_call 24; refine (Hah.out _ (St.fn (by assumption) hF.fn)).mono ?_; rintro e wh ⟨rfl, hbn⟩; have st := St.next (by assumption) hbn; have h14 := st.c14; clear hbn))
      go_loopg [5] F.code.length (fun g s wr => ∃ (k : Nat), k ≤ F.code.length ∧ g = F.code.length - k ∧ s = .int .i64 k ∧ St w wr w.heap.size x F)
      case atStart => exact ⟨0, Nat.zero_le _, rfl, rfl, st⟩
      case round =>
        clear st
        obtain ⟨k, hk, rfl, rfl, st⟩ := hrel
        have ho := st.old
        have h14 := st.c14
        by_cases hlt : k < F.code.length
        · have hcall := fun W h1 h2 => ways_any x F R rs rc k W h1 h2 (by omega) (by omega)
          have hlv := fun W h1 h2 => leaves_any x F R rs rc k W h1 h2 (by omega)
          have hof : ∀ W, FnX W x F → Row W 0 R (boolsV rs) → Calls Try.prog 25 #[x.val F, .slice R rs.length rc, .int .i64 k] W fun e w' => ∃ A c, e = .returned (.agg #[.int .i64 (k : Int), .int .i64 (jn F rs k), .slice A (made F rs k).pl.length c]) ∧ Below W.heap.size W w' := by
            intro W h1 h2
            refine (of_any x F R rs rc k W h1 h2 (by omega) (by omega)).mono ?_
            rw [ofF_yes (Fn.place_of_nat hlt) Ha.out]
            rintro e w' ⟨A, c, rfl, _, hb⟩
            exact ⟨A, c, rfl, hb⟩
          have hws3 := Fn.ways_length F rs k
          have hp3 := reachL_length F rs (F.ways rs k) (jn F rs k)
          have hj1 := @jn_leaves F rs k
          have hj2 := fun h1 w h2 => @one_way F rs k Ha.out h1 w h2
          have hnp : (made F rs k).pl.length = (made F rs k).pl.length := rfl
          generalize F.leaves rs k = lv at *
          rw [show reachL F rs (F.ways rs k) (jn F rs k) = (made F rs k).pl from rfl] at hp3
          generalize (made F rs k).pl = mp at *
          generalize jn F rs k = jk at *
          generalize F.ways rs k = ws at *
          have Hof := Lib.hid hof
          have Hcall := Lib.hid hcall
          clear hof hcall hnp
          cases lv with
          | true =>
            have Hlv := Lib.hid hlv
            have hjk : (jk != -1) = false := by rw [hj1 (.inl rfl)]; rfl
            clear hlv hj1 hj2
            generalize mp.length = np at *
            go_upto_region 10 with (first | go_skip | ((with_reducible refine at_load 30 rfl ?_); refine ld30 _ rfl _ rfl x F (St.bx (by assumption)) rfl ?_) | (go_at_call 19; refine (Hcall.out _ (St.fn (by assumption) hF.fn) (St.row (by assumption) hR)).mono ?_; rintro e wn ⟨A2, c2, rfl, hown2, hbn⟩; have st := St.next (by assumption) hbn; have h14 := st.c14; clear hbn) | (go_at_call 25; refine (Hof.out _ (St.fnx (by assumption) hF) (St.row (by assumption) hR)).mono ?_; rintro e wo ⟨A3, c3, rfl, hbn⟩; have hown2 := Own.stay hown2 hbn; have st := St.next (by assumption) hbn; have h14 := st.c14; clear hbn; have hxo := st.bx.lt) | ((with_reducible refine at_alloc 44 rfl ?_); refine al44 rfl rfl ?_; intro wq hr hbn hsr; have hbw := hbn; have st := St.next (by assumption) hbn; have h14 := st.c14; clear hbn) | ((with_reducible refine at_store 44 rfl ?_); refine wp_storebox 44 _ _ rfl rfl _ #[.int .i64 (k : Int), .int .i64 jk, .slice A3 np c3] rfl rfl hr (by kernel_rfl) rfl (all3 _ _ _ _ _) ?_; intro wz hr hbs hss hks; have st := St.low (by assumption) hbs (by omega); have hown2 := Own.below hown2 (hbw.trans hbs) (Nat.le_refl _); have h14 := st.c14; clear hbs hks) | (go_at_call 27; refine (Hlv.out _ (St.fn (by assumption) hF.fn) (St.row (by assumption) hR)).mono ?_; rintro e wl ⟨rfl, hbn⟩; have hown2 := Own.stay hown2 hbn; have hr := Bk.stay hr hbn; have st := St.next (by assumption) hbn; have h14 := st.c14; clear hbn; have r1 := (hr.cell 1).trans rfl; have r2 := (hr.cell 2).trans rfl; have hrl := hr.lt; have hxl := st.bx.lt))
            have hS : St w wl.drew w.heap.size x F ∧ Below wl.heap.size wl wl.drew := ⟨st.drew, (Below.refl _ _).drew⟩
            refine h_begin (S := fun w' => St w w' w.heap.size x F ∧ Below wl.heap.size wl w') 24 #[false, false, false, false, false, false, false, false, false, false, false, false, false, false, false, false, false, false, false, false, false, false, false, false] rfl rfl ?_
            refine h_take (v := ?_) 0 (some 51) rfl rfl (by kernel_rfl) (by kernel_rfl) (by kernel_rfl) (fun _ _ _ h => h) (by rfl) hS (fun wS hSw => ?_) #[true, false, false, false, false, false, false, false, false, false, false, false, false, false, false, false, false, false, false, false, false, false, false, false] rfl ?_; rotate_left
            · refine run_ld30 _ (.tmp 2) ?_ ?_ hSw.1.bx <;> rfl
            (try simp only [Act.put, List.setIfInBounds_toArray, List.set_cons_zero, List.set_cons_succ])
            refine h_take (v := ?_) 1 (some 52) rfl rfl (by kernel_rfl) (by kernel_rfl) (by kernel_rfl) (fun _ _ _ h => h) (by rfl) hS (fun wS hSw => ?_) #[true, true, false, false, false, false, false, false, false, false, false, false, false, false, false, false, false, false, false, false, false, false, false, false] rfl ?_; rotate_left
            · clear hSw; go_simp; first | done | with_reducible rfl
            (try simp only [Act.put, List.setIfInBounds_toArray, List.set_cons_zero, List.set_cons_succ])
            refine h_take (v := ?_) 2 (some 53) rfl rfl (by kernel_rfl) (by kernel_rfl) (by kernel_rfl) (fun _ _ _ h => h) (by rfl) hS (fun wS hSw => ?_) #[true, true, true, false, false, false, false, false, false, false, false, false, false, false, false, false, false, false, false, false, false, false, false, false] rfl ?_; rotate_left
            · clear hSw; go_simp; first | done | with_reducible rfl
            (try simp only [Act.put, List.setIfInBounds_toArray, List.set_cons_zero, List.set_cons_succ])
            refine h_call 3 (some 54) (by kernel_rfl) rfl rfl (by rfl) #[true, true, true, true, false, false, false, false, false, false, false, false, false, false, false, false, false, false, false, false, false, false, false, false] rfl (by go_simp; exact ⟨rfl, rfl⟩) ?_
            refine (Hlv.out _ (St.fn hS.1 hF.fn) (St.row hS.1 hR)).mono ?_
            rintro e wn ⟨rfl, hbn⟩
            refine ⟨_, rfl, ?_, ?_⟩
            · exact ⟨St.next hS.1 hbn, hS.2.trans (hbn.mono hS.2.size)⟩
            have hS : _ ∧ _ := ⟨St.next hS.1 hbn, hS.2.trans (hbn.mono hS.2.size)⟩
            (try simp only [Act.put, List.setIfInBounds_toArray, List.set_cons_zero, List.set_cons_succ])
            refine h_take (v := ?_) 4 (some 55) rfl rfl (by kernel_rfl) (by kernel_rfl) (by kernel_rfl) (fun _ _ _ h => h) (by rfl) hS (fun wS hSw => ?_) #[true, true, true, true, true, false, false, false, false, false, false, false, false, false, false, false, false, false, false, false, false, false, false, false] rfl ?_; rotate_left
            · clear hSw; go_simp; first | done | with_reducible rfl
            (try simp only [Act.put, List.setIfInBounds_toArray, List.set_cons_zero, List.set_cons_succ])
            refine h_take (v := ?_) 5 (some 56) rfl rfl (by kernel_rfl) (by kernel_rfl) (by kernel_rfl) (fun _ _ _ h => h) (by rfl) hS (fun wS hSw => ?_) #[true, true, true, true, true, true, false, false, false, false, false, false, false, false, false, false, false, false, false, false, false, false, false, false] rfl ?_; rotate_left
            · clear hSw; go_simp; first | done | with_reducible rfl
            (try simp only [Act.put, List.setIfInBounds_toArray, List.set_cons_zero, List.set_cons_succ])
            refine h_skip 6 (some 57) rfl rfl (by kernel_rfl) (by kernel_rfl) (by kernel_rfl) (fun _ _ _ h => h) (by rfl) hS #[true, true, true, true, true, true, true, false, false, false, false, false, false, false, false, false, false, false, false, false, false, false, false, false] rfl ?_
            (try simp only [Act.put, List.setIfInBounds_toArray, List.set_cons_zero, List.set_cons_succ])
            refine h_skip 7 (some 58) rfl rfl (by kernel_rfl) (by kernel_rfl) (by kernel_rfl) (fun _ _ _ h => h) (by rfl) hS #[true, true, true, true, true, true, true, true, false, false, false, false, false, false, false, false, false, false, false, false, false, false, false, false] rfl ?_
            (try simp only [Act.put, List.setIfInBounds_toArray, List.set_cons_zero, List.set_cons_succ])
            refine h_skip 8 (some 59) rfl rfl (by kernel_rfl) (by kernel_rfl) (by kernel_rfl) (fun _ _ _ h => h) (by rfl) hS #[true, true, true, true, true, true, true, true, true, false, false, false, false, false, false, false, false, false, false, false, false, false, false, false] rfl ?_
            (try simp only [Act.put, List.setIfInBounds_toArray, List.set_cons_zero, List.set_cons_succ])
            refine h_take (v := ?_) 9 (some 60) rfl rfl (by kernel_rfl) (by kernel_rfl) (by kernel_rfl) (fun _ _ _ h => h) (by rfl) hS (fun wS hSw => ?_) #[true, true, true, true, true, true, true, true, true, true, false, false, false, false, false, false, false, false, false, false, false, false, false, false] rfl ?_; rotate_left
            · clear hSw; go_simp; first | done | with_reducible rfl
            (try simp only [Act.put, List.setIfInBounds_toArray, List.set_cons_zero, List.set_cons_succ])
            refine h_take (v := ?_) 10 (some 61) rfl rfl (by kernel_rfl) (by kernel_rfl) (by kernel_rfl) (fun _ _ _ h => h) (by rfl) hS (fun wS hSw => ?_) #[true, true, true, true, true, true, true, true, true, true, true, false, false, false, false, false, false, false, false, false, false, false, false, false] rfl ?_; rotate_left
            · clear hSw; go_simp; first | done | with_reducible rfl
            (try simp only [Act.put, List.setIfInBounds_toArray, List.set_cons_zero, List.set_cons_succ])
            refine h_skip 11 (some 62) rfl rfl (by kernel_rfl) (by kernel_rfl) (by kernel_rfl) (fun _ _ _ h => h) (by rfl) hS #[true, true, true, true, true, true, true, true, true, true, true, true, false, false, false, false, false, false, false, false, false, false, false, false] rfl ?_
            (try simp only [Act.put, List.setIfInBounds_toArray, List.set_cons_zero, List.set_cons_succ])
            refine h_skip 12 (some 63) rfl rfl (by kernel_rfl) (by kernel_rfl) (by kernel_rfl) (fun _ _ _ h => h) (by rfl) hS #[true, true, true, true, true, true, true, true, true, true, true, true, true, false, false, false, false, false, false, false, false, false, false, false] rfl ?_
            (try simp only [Act.put, List.setIfInBounds_toArray, List.set_cons_zero, List.set_cons_succ])
            refine h_skip 13 (some 64) rfl rfl (by kernel_rfl) (by kernel_rfl) (by kernel_rfl) (fun _ _ _ h => h) (by rfl) hS #[true, true, true, true, true, true, true, true, true, true, true, true, true, true, false, false, false, false, false, false, false, false, false, false] rfl ?_
            (try simp only [Act.put, List.setIfInBounds_toArray, List.set_cons_zero, List.set_cons_succ])
            refine h_skip 14 (some 65) rfl rfl (by kernel_rfl) (by kernel_rfl) (by kernel_rfl) (fun _ _ _ h => h) (by rfl) hS #[true, true, true, true, true, true, true, true, true, true, true, true, true, true, true, false, false, false, false, false, false, false, false, false] rfl ?_
            (try simp only [Act.put, List.setIfInBounds_toArray, List.set_cons_zero, List.set_cons_succ])
            refine h_skip 15 (some 66) rfl rfl (by kernel_rfl) (by kernel_rfl) (by kernel_rfl) (fun _ _ _ h => h) (by rfl) hS #[true, true, true, true, true, true, true, true, true, true, true, true, true, true, true, true, false, false, false, false, false, false, false, false] rfl ?_
            (try simp only [Act.put, List.setIfInBounds_toArray, List.set_cons_zero, List.set_cons_succ])
            refine h_skip 16 (some 67) rfl rfl (by kernel_rfl) (by kernel_rfl) (by kernel_rfl) (fun _ _ _ h => h) (by rfl) hS #[true, true, true, true, true, true, true, true, true, true, true, true, true, true, true, true, true, false, false, false, false, false, false, false] rfl ?_
            (try simp only [Act.put, List.setIfInBounds_toArray, List.set_cons_zero, List.set_cons_succ])
            refine h_skip 17 (some 68) rfl rfl (by kernel_rfl) (by kernel_rfl) (by kernel_rfl) (fun _ _ _ h => h) (by rfl) hS #[true, true, true, true, true, true, true, true, true, true, true, true, true, true, true, true, true, true, false, false, false, false, false, false] rfl ?_
            (try simp only [Act.put, List.setIfInBounds_toArray, List.set_cons_zero, List.set_cons_succ])
            refine h_skip 18 (some 69) rfl rfl (by kernel_rfl) (by kernel_rfl) (by kernel_rfl) (fun _ _ _ h => h) (by rfl) hS #[true, true, true, true, true, true, true, true, true, true, true, true, true, true, true, true, true, true, true, false, false, false, false, false] rfl ?_
            (try simp only [Act.put, List.setIfInBounds_toArray, List.set_cons_zero, List.set_cons_succ])
            refine h_skip 19 (some 70) rfl rfl (by kernel_rfl) (by kernel_rfl) (by kernel_rfl) (fun _ _ _ h => h) (by rfl) hS #[true, true, true, true, true, true, true, true, true, true, true, true, true, true, true, true, true, true, true, true, false, false, false, false] rfl ?_
            (try simp only [Act.put, List.setIfInBounds_toArray, List.set_cons_zero, List.set_cons_succ])
            refine h_skip 20 (some 71) rfl rfl (by kernel_rfl) (by kernel_rfl) (by kernel_rfl) (fun _ _ _ h => h) (by rfl) hS #[true, true, true, true, true, true, true, true, true, true, true, true, true, true, true, true, true, true, true, true, true, false, false, false] rfl ?_
            (try simp only [Act.put, List.setIfInBounds_toArray, List.set_cons_zero, List.set_cons_succ])
            refine h_skip 21 (some 72) rfl rfl (by kernel_rfl) (by kernel_rfl) (by kernel_rfl) (fun _ _ _ h => h) (by rfl) hS #[true, true, true, true, true, true, true, true, true, true, true, true, true, true, true, true, true, true, true, true, true, true, false, false] rfl ?_
            (try simp only [Act.put, List.setIfInBounds_toArray, List.set_cons_zero, List.set_cons_succ])
            refine h_skip 22 (some 73) rfl rfl (by kernel_rfl) (by kernel_rfl) (by kernel_rfl) (fun _ _ _ h => h) (by rfl) hS #[true, true, true, true, true, true, true, true, true, true, true, true, true, true, true, true, true, true, true, true, true, true, true, false] rfl ?_
            (try simp only [Act.put, List.setIfInBounds_toArray, List.set_cons_zero, List.set_cons_succ])
            refine h_take (v := ?_) 23 (some 74) rfl rfl (by kernel_rfl) (by kernel_rfl) (by kernel_rfl) (fun _ _ _ h => h) (by rfl) hS (fun wS hSw => ?_) #[true, true, true, true, true, true, true, true, true, true, true, true, true, true, true, true, true, true, true, true, true, true, true, true] rfl ?_; rotate_left
            · clear hSw; go_simp; first | done | with_reducible rfl
            (try simp only [Act.put, List.setIfInBounds_toArray, List.set_cons_zero, List.set_cons_succ])
            refine wpAnyH_done (by kernel_rfl) ?_ _
            have st := hS.1
            clear hS
            go_wp2
            go_roundg (F.code.length - (k + 1))
            case measure => omega
            case rel => exact ⟨k + 1, by omega, rfl, by go_num, st⟩
          | false =>
            have Hlv := Lib.hid hlv
            clear hlv
            rcases ws with _ | ⟨y, t⟩
            · have hjk : (jk != -1) = false := by rw [hj1 (.inr rfl)]; rfl
              clear hj1 hj2
              generalize mp.length = np at *
              go_upto_region 10 with (first | go_skip | ((with_reducible refine at_load 30 rfl ?_); refine ld30 _ rfl _ rfl x F (St.bx (by assumption)) rfl ?_) | (go_at_call 19; refine (Hcall.out _ (St.fn (by assumption) hF.fn) (St.row (by assumption) hR)).mono ?_; rintro e wn ⟨A2, c2, rfl, hown2, hbn⟩; have st := St.next (by assumption) hbn; have h14 := st.c14; clear hbn) | (go_at_call 25; refine (Hof.out _ (St.fnx (by assumption) hF) (St.row (by assumption) hR)).mono ?_; rintro e wo ⟨A3, c3, rfl, hbn⟩; have hown2 := Own.stay hown2 hbn; have st := St.next (by assumption) hbn; have h14 := st.c14; clear hbn; have hxo := st.bx.lt) | ((with_reducible refine at_alloc 44 rfl ?_); refine al44 rfl rfl ?_; intro wq hr hbn hsr; have hbw := hbn; have st := St.next (by assumption) hbn; have h14 := st.c14; clear hbn) | ((with_reducible refine at_store 44 rfl ?_); refine wp_storebox 44 _ _ rfl rfl _ #[.int .i64 (k : Int), .int .i64 jk, .slice A3 np c3] rfl rfl hr (by kernel_rfl) rfl (all3 _ _ _ _ _) ?_; intro wz hr hbs hss hks; have st := St.low (by assumption) hbs (by omega); have hown2 := Own.below hown2 (hbw.trans hbs) (Nat.le_refl _); have h14 := st.c14; clear hbs hks) | (go_at_call 27; refine (Hlv.out _ (St.fn (by assumption) hF.fn) (St.row (by assumption) hR)).mono ?_; rintro e wl ⟨rfl, hbn⟩; have hown2 := Own.stay hown2 hbn; have hr := Bk.stay hr hbn; have st := St.next (by assumption) hbn; have h14 := st.c14; clear hbn; have r1 := (hr.cell 1).trans rfl; have r2 := (hr.cell 2).trans rfl; have hrl := hr.lt; have hxl := st.bx.lt))
              have hS : St w wl.drew w.heap.size x F ∧ Below wl.heap.size wl wl.drew := ⟨st.drew, (Below.refl _ _).drew⟩
              refine h_begin (S := fun w' => St w w' w.heap.size x F ∧ Below wl.heap.size wl w') 24 #[false, false, false, false, false, false, false, false, false, false, false, false, false, false, false, false, false, false, false, false, false, false, false, false] rfl rfl ?_
              refine h_take (v := ?_) 0 (some 51) rfl rfl (by kernel_rfl) (by kernel_rfl) (by kernel_rfl) (fun _ _ _ h => h) (by rfl) hS (fun wS hSw => ?_) #[true, false, false, false, false, false, false, false, false, false, false, false, false, false, false, false, false, false, false, false, false, false, false, false] rfl ?_; rotate_left
              · refine run_ld30 _ (.tmp 2) ?_ ?_ hSw.1.bx <;> rfl
              (try simp only [Act.put, List.setIfInBounds_toArray, List.set_cons_zero, List.set_cons_succ])
              refine h_take (v := ?_) 1 (some 52) rfl rfl (by kernel_rfl) (by kernel_rfl) (by kernel_rfl) (fun _ _ _ h => h) (by rfl) hS (fun wS hSw => ?_) #[true, true, false, false, false, false, false, false, false, false, false, false, false, false, false, false, false, false, false, false, false, false, false, false] rfl ?_; rotate_left
              · clear hSw; go_simp; first | done | with_reducible rfl
              (try simp only [Act.put, List.setIfInBounds_toArray, List.set_cons_zero, List.set_cons_succ])
              refine h_take (v := ?_) 2 (some 53) rfl rfl (by kernel_rfl) (by kernel_rfl) (by kernel_rfl) (fun _ _ _ h => h) (by rfl) hS (fun wS hSw => ?_) #[true, true, true, false, false, false, false, false, false, false, false, false, false, false, false, false, false, false, false, false, false, false, false, false] rfl ?_; rotate_left
              · clear hSw; go_simp; first | done | with_reducible rfl
              (try simp only [Act.put, List.setIfInBounds_toArray, List.set_cons_zero, List.set_cons_succ])
              refine h_call 3 (some 54) (by kernel_rfl) rfl rfl (by rfl) #[true, true, true, true, false, false, false, false, false, false, false, false, false, false, false, false, false, false, false, false, false, false, false, false] rfl (by go_simp; exact ⟨rfl, rfl⟩) ?_
              refine (Hlv.out _ (St.fn hS.1 hF.fn) (St.row hS.1 hR)).mono ?_
              rintro e wn ⟨rfl, hbn⟩
              refine ⟨_, rfl, ?_, ?_⟩
              · exact ⟨St.next hS.1 hbn, hS.2.trans (hbn.mono hS.2.size)⟩
              have hS : _ ∧ _ := ⟨St.next hS.1 hbn, hS.2.trans (hbn.mono hS.2.size)⟩
              (try simp only [Act.put, List.setIfInBounds_toArray, List.set_cons_zero, List.set_cons_succ])
              refine h_take (v := ?_) 4 (some 55) rfl rfl (by kernel_rfl) (by kernel_rfl) (by kernel_rfl) (fun _ _ _ h => h) (by rfl) hS (fun wS hSw => ?_) #[true, true, true, true, true, false, false, false, false, false, false, false, false, false, false, false, false, false, false, false, false, false, false, false] rfl ?_; rotate_left
              · clear hSw; go_simp; first | done | with_reducible rfl
              (try simp only [Act.put, List.setIfInBounds_toArray, List.set_cons_zero, List.set_cons_succ])
              refine h_take (v := ?_) 5 (some 56) rfl rfl (by kernel_rfl) (by kernel_rfl) (by kernel_rfl) (fun _ _ _ h => h) (by rfl) hS (fun wS hSw => ?_) #[true, true, true, true, true, true, false, false, false, false, false, false, false, false, false, false, false, false, false, false, false, false, false, false] rfl ?_; rotate_left
              · clear hSw; go_simp; first | done | with_reducible rfl
              (try simp only [Act.put, List.setIfInBounds_toArray, List.set_cons_zero, List.set_cons_succ])
              refine h_take (v := ?_) 6 (some 57) rfl rfl (by kernel_rfl) (by kernel_rfl) (by kernel_rfl) (fun _ _ _ h => h) (by rfl) hS (fun wS hSw => ?_) #[true, true, true, true, true, true, true, false, false, false, false, false, false, false, false, false, false, false, false, false, false, false, false, false] rfl ?_; rotate_left
              · clear hSw; go_simp; first | done | with_reducible rfl
              (try simp only [Act.put, List.setIfInBounds_toArray, List.set_cons_zero, List.set_cons_succ])
              refine h_take (v := ?_) 7 (some 58) rfl rfl (by kernel_rfl) (by kernel_rfl) (by kernel_rfl) (fun _ _ _ h => h) (by rfl) hS (fun wS hSw => ?_) #[true, true, true, true, true, true, true, true, false, false, false, false, false, false, false, false, false, false, false, false, false, false, false, false] rfl ?_; rotate_left
              · clear hSw; go_simp; first | done | with_reducible rfl
              (try simp only [Act.put, List.setIfInBounds_toArray, List.set_cons_zero, List.set_cons_succ])
              refine h_take (v := ?_) 8 (some 59) rfl rfl (by kernel_rfl) (by kernel_rfl) (by kernel_rfl) (fun _ _ _ h => h) (by rfl) hS (fun wS hSw => ?_) #[true, true, true, true, true, true, true, true, true, false, false, false, false, false, false, false, false, false, false, false, false, false, false, false] rfl ?_; rotate_left
              · clear hSw; go_simp; first | done | with_reducible rfl
              (try simp only [Act.put, List.setIfInBounds_toArray, List.set_cons_zero, List.set_cons_succ])
              refine h_take (v := ?_) 9 (some 60) rfl rfl (by kernel_rfl) (by kernel_rfl) (by kernel_rfl) (fun _ _ _ h => h) (by rfl) hS (fun wS hSw => ?_) #[true, true, true, true, true, true, true, true, true, true, false, false, false, false, false, false, false, false, false, false, false, false, false, false] rfl ?_; rotate_left
              · clear hSw; go_simp; first | done | with_reducible rfl
              (try simp only [Act.put, List.setIfInBounds_toArray, List.set_cons_zero, List.set_cons_succ])
              refine h_take (v := ?_) 10 (some 61) rfl rfl (by kernel_rfl) (by kernel_rfl) (by kernel_rfl) (fun _ _ _ h => h) (by rfl) hS (fun wS hSw => ?_) #[true, true, true, true, true, true, true, true, true, true, true, false, false, false, false, false, false, false, false, false, false, false, false, false] rfl ?_; rotate_left
              · clear hSw; go_simp; first | done | with_reducible rfl
              (try simp only [Act.put, List.setIfInBounds_toArray, List.set_cons_zero, List.set_cons_succ])
              refine h_skip 11 (some 62) rfl rfl (by kernel_rfl) (by kernel_rfl) (by kernel_rfl) (fun _ _ _ h => h) (by rfl) hS #[true, true, true, true, true, true, true, true, true, true, true, true, false, false, false, false, false, false, false, false, false, false, false, false] rfl ?_
              (try simp only [Act.put, List.setIfInBounds_toArray, List.set_cons_zero, List.set_cons_succ])
              refine h_skip 12 (some 63) rfl rfl (by kernel_rfl) (by kernel_rfl) (by kernel_rfl) (fun _ _ _ h => h) (by rfl) hS #[true, true, true, true, true, true, true, true, true, true, true, true, true, false, false, false, false, false, false, false, false, false, false, false] rfl ?_
              (try simp only [Act.put, List.setIfInBounds_toArray, List.set_cons_zero, List.set_cons_succ])
              refine h_skip 13 (some 64) rfl rfl (by kernel_rfl) (by kernel_rfl) (by kernel_rfl) (fun _ _ _ h => h) (by rfl) hS #[true, true, true, true, true, true, true, true, true, true, true, true, true, true, false, false, false, false, false, false, false, false, false, false] rfl ?_
              (try simp only [Act.put, List.setIfInBounds_toArray, List.set_cons_zero, List.set_cons_succ])
              refine h_skip 14 (some 65) rfl rfl (by kernel_rfl) (by kernel_rfl) (by kernel_rfl) (fun _ _ _ h => h) (by rfl) hS #[true, true, true, true, true, true, true, true, true, true, true, true, true, true, true, false, false, false, false, false, false, false, false, false] rfl ?_
              (try simp only [Act.put, List.setIfInBounds_toArray, List.set_cons_zero, List.set_cons_succ])
              refine h_skip 15 (some 66) rfl rfl (by kernel_rfl) (by kernel_rfl) (by kernel_rfl) (fun _ _ _ h => h) (by rfl) hS #[true, true, true, true, true, true, true, true, true, true, true, true, true, true, true, true, false, false, false, false, false, false, false, false] rfl ?_
              (try simp only [Act.put, List.setIfInBounds_toArray, List.set_cons_zero, List.set_cons_succ])
              refine h_skip 16 (some 67) rfl rfl (by kernel_rfl) (by kernel_rfl) (by kernel_rfl) (fun _ _ _ h => h) (by rfl) hS #[true, true, true, true, true, true, true, true, true, true, true, true, true, true, true, true, true, false, false, false, false, false, false, false] rfl ?_
              (try simp only [Act.put, List.setIfInBounds_toArray, List.set_cons_zero, List.set_cons_succ])
              refine h_skip 17 (some 68) rfl rfl (by kernel_rfl) (by kernel_rfl) (by kernel_rfl) (fun _ _ _ h => h) (by rfl) hS #[true, true, true, true, true, true, true, true, true, true, true, true, true, true, true, true, true, true, false, false, false, false, false, false] rfl ?_
              (try simp only [Act.put, List.setIfInBounds_toArray, List.set_cons_zero, List.set_cons_succ])
              refine h_skip 18 (some 69) rfl rfl (by kernel_rfl) (by kernel_rfl) (by kernel_rfl) (fun _ _ _ h => h) (by rfl) hS #[true, true, true, true, true, true, true, true, true, true, true, true, true, true, true, true, true, true, true, false, false, false, false, false] rfl ?_
              (try simp only [Act.put, List.setIfInBounds_toArray, List.set_cons_zero, List.set_cons_succ])
              refine h_skip 19 (some 70) rfl rfl (by kernel_rfl) (by kernel_rfl) (by kernel_rfl) (fun _ _ _ h => h) (by rfl) hS #[true, true, true, true, true, true, true, true, true, true, true, true, true, true, true, true, true, true, true, true, false, false, false, false] rfl ?_
              (try simp only [Act.put, List.setIfInBounds_toArray, List.set_cons_zero, List.set_cons_succ])
              refine h_skip 20 (some 71) rfl rfl (by kernel_rfl) (by kernel_rfl) (by kernel_rfl) (fun _ _ _ h => h) (by rfl) hS #[true, true, true, true, true, true, true, true, true, true, true, true, true, true, true, true, true, true, true, true, true, false, false, false] rfl ?_
              (try simp only [Act.put, List.setIfInBounds_toArray, List.set_cons_zero, List.set_cons_succ])
              refine h_skip 21 (some 72) rfl rfl (by kernel_rfl) (by kernel_rfl) (by kernel_rfl) (fun _ _ _ h => h) (by rfl) hS #[true, true, true, true, true, true, true, true, true, true, true, true, true, true, true, true, true, true, true, true, true, true, false, false] rfl ?_
              (try simp only [Act.put, List.setIfInBounds_toArray, List.set_cons_zero, List.set_cons_succ])
              refine h_skip 22 (some 73) rfl rfl (by kernel_rfl) (by kernel_rfl) (by kernel_rfl) (fun _ _ _ h => h) (by rfl) hS #[true, true, true, true, true, true, true, true, true, true, true, true, true, true, true, true, true, true, true, true, true, true, true, false] rfl ?_
              (try simp only [Act.put, List.setIfInBounds_toArray, List.set_cons_zero, List.set_cons_succ])
              refine h_take (v := ?_) 23 (some 74) rfl rfl (by kernel_rfl) (by kernel_rfl) (by kernel_rfl) (fun _ _ _ h => h) (by rfl) hS (fun wS hSw => ?_) #[true, true, true, true, true, true, true, true, true, true, true, true, true, true, true, true, true, true, true, true, true, true, true, true] rfl ?_; rotate_left
              · clear hSw; go_simp; first | done | with_reducible rfl
              (try simp only [Act.put, List.setIfInBounds_toArray, List.set_cons_zero, List.set_cons_succ])
              refine wpAnyH_done (by kernel_rfl) ?_ _
              have st := hS.1
              clear hS
              go_wp2
              go_roundg (F.code.length - (k + 1))
              case measure => omega
              case rel => exact ⟨k + 1, by omega, rfl, by go_num, st⟩
            · rcases t with _ | ⟨y2, t⟩
              · obtain ⟨e1, e2⟩ := hj2 rfl y rfl
                subst e1
                subst e2
                have hjj : (jk != jk) = false := by simp
                have hl1 : ([jk] : List Int).length = 1 := rfl
                have hl0 : ([] : List Int).length = 0 := rfl
                rw [hl1] at Hcall
                rw [hl0] at Hof
                clear hj1 hj2 hp3 hl1 hl0 hws3
                go_upto_region 10 with (first | go_skip | ((with_reducible refine at_load 30 rfl ?_); refine ld30 _ rfl _ rfl x F (St.bx (by assumption)) rfl ?_) | (go_at_call 19; refine (Hcall.out _ (St.fn (by assumption) hF.fn) (St.row (by assumption) hR)).mono ?_; rintro e wn ⟨A2, c2, rfl, hown2, hbn⟩; have st := St.next (by assumption) hbn; have h14 := st.c14; clear hbn) | (go_at_call 25; refine (Hof.out _ (St.fnx (by assumption) hF) (St.row (by assumption) hR)).mono ?_; rintro e wo ⟨A3, c3, rfl, hbn⟩; have hown2 := Own.stay hown2 hbn; have st := St.next (by assumption) hbn; have h14 := st.c14; clear hbn; have hxo := st.bx.lt) | ((with_reducible refine at_alloc 44 rfl ?_); refine al44 rfl rfl ?_; intro wq hr hbn hsr; have hbw := hbn; have st := St.next (by assumption) hbn; have h14 := st.c14; clear hbn) | ((with_reducible refine at_store 44 rfl ?_); refine wp_storebox 44 _ _ rfl rfl _ #[.int .i64 (k : Int), .int .i64 jk, .slice A3 0 c3] rfl rfl hr (by kernel_rfl) rfl (all3 _ _ _ _ _) ?_; intro wz hr hbs hss hks; have st := St.low (by assumption) hbs (by omega); have hown2 := Own.below hown2 (hbw.trans hbs) (Nat.le_refl _); have h14 := st.c14; clear hbs hks) | (go_at_call 27; refine (Hlv.out _ (St.fn (by assumption) hF.fn) (St.row (by assumption) hR)).mono ?_; rintro e wl ⟨rfl, hbn⟩; have hown2 := Own.stay hown2 hbn; have hr := Bk.stay hr hbn; have st := St.next (by assumption) hbn; have h14 := st.c14; clear hbn; have r1 := (hr.cell 1).trans rfl; have r2 := (hr.cell 2).trans rfl; have hrl := hr.lt; have hxl := st.bx.lt))
                obtain ⟨B, off, hA', -, hB, h0'⟩ := hown2.row.int_at (k := 0) (by simp)
                have h0 : wl.cell? ⟨B, off, none⟩ = some (.int .i64 jk) := h0'
                have hiy : ∀ W, (Instr.indexAt 32 (.slice A2 1 c2) (.int .i64 0)).run Try.prog W = .ok (.pointer (some ⟨B, off, none⟩)) W := fun W => ix32 hA' (k := 0) (by omega) c2 W
                clear hA' h0' hown2
                have hS : St w wl.drew w.heap.size x F ∧ Below wl.heap.size wl wl.drew := ⟨st.drew, (Below.refl _ _).drew⟩
                refine h_begin (S := fun w' => St w w' w.heap.size x F ∧ Below wl.heap.size wl w') 24 #[false, false, false, false, false, false, false, false, false, false, false, false, false, false, false, false, false, false, false, false, false, false, false, false] rfl rfl ?_
                refine h_take (v := ?_) 0 (some 51) rfl rfl (by kernel_rfl) (by kernel_rfl) (by kernel_rfl) (fun _ _ _ h => h) (by rfl) hS (fun wS hSw => ?_) #[true, false, false, false, false, false, false, false, false, false, false, false, false, false, false, false, false, false, false, false, false, false, false, false] rfl ?_; rotate_left
                · refine run_ld30 _ (.tmp 2) ?_ ?_ hSw.1.bx <;> rfl
                (try simp only [Act.put, List.setIfInBounds_toArray, List.set_cons_zero, List.set_cons_succ])
                refine h_take (v := ?_) 1 (some 52) rfl rfl (by kernel_rfl) (by kernel_rfl) (by kernel_rfl) (fun _ _ _ h => h) (by rfl) hS (fun wS hSw => ?_) #[true, true, false, false, false, false, false, false, false, false, false, false, false, false, false, false, false, false, false, false, false, false, false, false] rfl ?_; rotate_left
                · clear hSw; go_simp; first | done | with_reducible rfl
                (try simp only [Act.put, List.setIfInBounds_toArray, List.set_cons_zero, List.set_cons_succ])
                refine h_take (v := ?_) 2 (some 53) rfl rfl (by kernel_rfl) (by kernel_rfl) (by kernel_rfl) (fun _ _ _ h => h) (by rfl) hS (fun wS hSw => ?_) #[true, true, true, false, false, false, false, false, false, false, false, false, false, false, false, false, false, false, false, false, false, false, false, false] rfl ?_; rotate_left
                · clear hSw; go_simp; first | done | with_reducible rfl
                (try simp only [Act.put, List.setIfInBounds_toArray, List.set_cons_zero, List.set_cons_succ])
                refine h_call 3 (some 54) (by kernel_rfl) rfl rfl (by rfl) #[true, true, true, true, false, false, false, false, false, false, false, false, false, false, false, false, false, false, false, false, false, false, false, false] rfl (by go_simp; exact ⟨rfl, rfl⟩) ?_
                refine (Hlv.out _ (St.fn hS.1 hF.fn) (St.row hS.1 hR)).mono ?_
                rintro e wn ⟨rfl, hbn⟩
                refine ⟨_, rfl, ?_, ?_⟩
                · exact ⟨St.next hS.1 hbn, hS.2.trans (hbn.mono hS.2.size)⟩
                have hS : _ ∧ _ := ⟨St.next hS.1 hbn, hS.2.trans (hbn.mono hS.2.size)⟩
                (try simp only [Act.put, List.setIfInBounds_toArray, List.set_cons_zero, List.set_cons_succ])
                refine h_take (v := ?_) 4 (some 55) rfl rfl (by kernel_rfl) (by kernel_rfl) (by kernel_rfl) (fun _ _ _ h => h) (by rfl) hS (fun wS hSw => ?_) #[true, true, true, true, true, false, false, false, false, false, false, false, false, false, false, false, false, false, false, false, false, false, false, false] rfl ?_; rotate_left
                · clear hSw; go_simp; first | done | with_reducible rfl
                (try simp only [Act.put, List.setIfInBounds_toArray, List.set_cons_zero, List.set_cons_succ])
                refine h_take (v := ?_) 5 (some 56) rfl rfl (by kernel_rfl) (by kernel_rfl) (by kernel_rfl) (fun _ _ _ h => h) (by rfl) hS (fun wS hSw => ?_) #[true, true, true, true, true, true, false, false, false, false, false, false, false, false, false, false, false, false, false, false, false, false, false, false] rfl ?_; rotate_left
                · clear hSw; go_simp; first | done | with_reducible rfl
                (try simp only [Act.put, List.setIfInBounds_toArray, List.set_cons_zero, List.set_cons_succ])
                refine h_take (v := ?_) 6 (some 57) rfl rfl (by kernel_rfl) (by kernel_rfl) (by kernel_rfl) (fun _ _ _ h => h) (by rfl) hS (fun wS hSw => ?_) #[true, true, true, true, true, true, true, false, false, false, false, false, false, false, false, false, false, false, false, false, false, false, false, false] rfl ?_; rotate_left
                · clear hSw; go_simp; first | done | with_reducible rfl
                (try simp only [Act.put, List.setIfInBounds_toArray, List.set_cons_zero, List.set_cons_succ])
                refine h_take (v := ?_) 7 (some 58) rfl rfl (by kernel_rfl) (by kernel_rfl) (by kernel_rfl) (fun _ _ _ h => h) (by rfl) hS (fun wS hSw => ?_) #[true, true, true, true, true, true, true, true, false, false, false, false, false, false, false, false, false, false, false, false, false, false, false, false] rfl ?_; rotate_left
                · clear hSw; go_simp; first | done | with_reducible rfl
                (try simp only [Act.put, List.setIfInBounds_toArray, List.set_cons_zero, List.set_cons_succ])
                refine h_take (v := ?_) 8 (some 59) rfl rfl (by kernel_rfl) (by kernel_rfl) (by kernel_rfl) (fun _ _ _ h => h) (by rfl) hS (fun wS hSw => ?_) #[true, true, true, true, true, true, true, true, true, false, false, false, false, false, false, false, false, false, false, false, false, false, false, false] rfl ?_; rotate_left
                · clear hSw; go_simp; first | done | with_reducible rfl
                (try simp only [Act.put, List.setIfInBounds_toArray, List.set_cons_zero, List.set_cons_succ])
                refine h_take (v := ?_) 9 (some 60) rfl rfl (by kernel_rfl) (by kernel_rfl) (by kernel_rfl) (fun _ _ _ h => h) (by rfl) hS (fun wS hSw => ?_) #[true, true, true, true, true, true, true, true, true, true, false, false, false, false, false, false, false, false, false, false, false, false, false, false] rfl ?_; rotate_left
                · clear hSw; go_simp; first | done | with_reducible rfl
                (try simp only [Act.put, List.setIfInBounds_toArray, List.set_cons_zero, List.set_cons_succ])
                refine h_take (v := ?_) 10 (some 61) rfl rfl (by kernel_rfl) (by kernel_rfl) (by kernel_rfl) (fun _ _ _ h => h) (by rfl) hS (fun wS hSw => ?_) #[true, true, true, true, true, true, true, true, true, true, true, false, false, false, false, false, false, false, false, false, false, false, false, false] rfl ?_; rotate_left
                · clear hSw; go_simp; first | done | with_reducible rfl
                (try simp only [Act.put, List.setIfInBounds_toArray, List.set_cons_zero, List.set_cons_succ])
                refine h_take (v := ?_) 11 (some 62) rfl rfl (by kernel_rfl) (by kernel_rfl) (by kernel_rfl) (fun _ _ _ h => h) (by rfl) hS (fun wS hSw => ?_) #[true, true, true, true, true, true, true, true, true, true, true, true, false, false, false, false, false, false, false, false, false, false, false, false] rfl ?_; rotate_left
                · clear hSw; go_simp; first | done | with_reducible rfl
                (try simp only [Act.put, List.setIfInBounds_toArray, List.set_cons_zero, List.set_cons_succ])
                refine h_take (v := ?_) 12 (some 63) rfl rfl (by kernel_rfl) (by kernel_rfl) (by kernel_rfl) (fun _ _ _ h => h) (by rfl) hS (fun wS hSw => ?_) #[true, true, true, true, true, true, true, true, true, true, true, true, true, false, false, false, false, false, false, false, false, false, false, false] rfl ?_; rotate_left
                · have hc := cells_of hSw.2; go_simp; first | done | with_reducible rfl
                (try simp only [Act.put, List.setIfInBounds_toArray, List.set_cons_zero, List.set_cons_succ])
                refine h_take (v := ?_) 13 (some 64) rfl rfl (by kernel_rfl) (by kernel_rfl) (by kernel_rfl) (fun _ _ _ h => h) (by rfl) hS (fun wS hSw => ?_) #[true, true, true, true, true, true, true, true, true, true, true, true, true, true, false, false, false, false, false, false, false, false, false, false] rfl ?_; rotate_left
                · clear hSw; go_simp; first | done | with_reducible rfl
                (try simp only [Act.put, List.setIfInBounds_toArray, List.set_cons_zero, List.set_cons_succ])
                refine h_take (v := ?_) 14 (some 65) rfl rfl (by kernel_rfl) (by kernel_rfl) (by kernel_rfl) (fun _ _ _ h => h) (by rfl) hS (fun wS hSw => ?_) #[true, true, true, true, true, true, true, true, true, true, true, true, true, true, true, false, false, false, false, false, false, false, false, false] rfl ?_; rotate_left
                · have hc := cells_of hSw.2; go_simp; first | done | with_reducible rfl
                (try simp only [Act.put, List.setIfInBounds_toArray, List.set_cons_zero, List.set_cons_succ])
                refine h_take (v := ?_) 15 (some 66) rfl rfl (by kernel_rfl) (by kernel_rfl) (by kernel_rfl) (fun _ _ _ h => h) (by rfl) hS (fun wS hSw => ?_) #[true, true, true, true, true, true, true, true, true, true, true, true, true, true, true, true, false, false, false, false, false, false, false, false] rfl ?_; rotate_left
                · have hc := cells_of hSw.2; go_simp; first | done | with_reducible rfl
                (try simp only [Act.put, List.setIfInBounds_toArray, List.set_cons_zero, List.set_cons_succ])
                refine h_take (v := ?_) 16 (some 67) rfl rfl (by kernel_rfl) (by kernel_rfl) (by kernel_rfl) (fun _ _ _ h => h) (by rfl) hS (fun wS hSw => ?_) #[true, true, true, true, true, true, true, true, true, true, true, true, true, true, true, true, true, false, false, false, false, false, false, false] rfl ?_; rotate_left
                · clear hSw; go_simp; first | done | with_reducible rfl
                (try simp only [Act.put, List.setIfInBounds_toArray, List.set_cons_zero, List.set_cons_succ])
                refine h_take (v := ?_) 17 (some 68) rfl rfl (by kernel_rfl) (by kernel_rfl) (by kernel_rfl) (fun _ _ _ h => h) (by rfl) hS (fun wS hSw => ?_) #[true, true, true, true, true, true, true, true, true, true, true, true, true, true, true, true, true, true, false, false, false, false, false, false] rfl ?_; rotate_left
                · clear hSw; go_simp; first | done | with_reducible rfl
                (try simp only [Act.put, List.setIfInBounds_toArray, List.set_cons_zero, List.set_cons_succ])
                refine h_take (v := ?_) 18 (some 69) rfl rfl (by kernel_rfl) (by kernel_rfl) (by kernel_rfl) (fun _ _ _ h => h) (by rfl) hS (fun wS hSw => ?_) #[true, true, true, true, true, true, true, true, true, true, true, true, true, true, true, true, true, true, true, false, false, false, false, false] rfl ?_; rotate_left
                · clear hSw; go_simp; first | done | with_reducible rfl
                (try simp only [Act.put, List.setIfInBounds_toArray, List.set_cons_zero, List.set_cons_succ])
                refine h_take (v := ?_) 19 (some 70) rfl rfl (by kernel_rfl) (by kernel_rfl) (by kernel_rfl) (fun _ _ _ h => h) (by rfl) hS (fun wS hSw => ?_) #[true, true, true, true, true, true, true, true, true, true, true, true, true, true, true, true, true, true, true, true, false, false, false, false] rfl ?_; rotate_left
                · have hc := cells_of hSw.2; go_simp; first | done | with_reducible rfl
                (try simp only [Act.put, List.setIfInBounds_toArray, List.set_cons_zero, List.set_cons_succ])
                refine h_take (v := ?_) 20 (some 71) rfl rfl (by kernel_rfl) (by kernel_rfl) (by kernel_rfl) (fun _ _ _ h => h) (by rfl) hS (fun wS hSw => ?_) #[true, true, true, true, true, true, true, true, true, true, true, true, true, true, true, true, true, true, true, true, true, false, false, false] rfl ?_; rotate_left
                · clear hSw; go_simp; first | done | with_reducible rfl
                (try simp only [Act.put, List.setIfInBounds_toArray, List.set_cons_zero, List.set_cons_succ])
                refine h_take (v := ?_) 21 (some 72) rfl rfl (by kernel_rfl) (by kernel_rfl) (by kernel_rfl) (fun _ _ _ h => h) (by rfl) hS (fun wS hSw => ?_) #[true, true, true, true, true, true, true, true, true, true, true, true, true, true, true, true, true, true, true, true, true, true, false, false] rfl ?_; rotate_left
                · clear hSw; go_simp; first | done | with_reducible rfl
                (try simp only [Act.put, List.setIfInBounds_toArray, List.set_cons_zero, List.set_cons_succ])
                refine h_take (v := ?_) 22 (some 73) rfl rfl (by kernel_rfl) (by kernel_rfl) (by kernel_rfl) (fun _ _ _ h => h) (by rfl) hS (fun wS hSw => ?_) #[true, true, true, true, true, true, true, true, true, true, true, true, true, true, true, true, true, true, true, true, true, true, true, false] rfl ?_; rotate_left
                · clear hSw; go_simp; first | done | with_reducible rfl
                (try simp only [Act.put, List.setIfInBounds_toArray, List.set_cons_zero, List.set_cons_succ])
                refine h_take (v := ?_) 23 (some 74) rfl rfl (by kernel_rfl) (by kernel_rfl) (by kernel_rfl) (fun _ _ _ h => h) (by rfl) hS (fun wS hSw => ?_) #[true, true, true, true, true, true, true, true, true, true, true, true, true, true, true, true, true, true, true, true, true, true, true, true] rfl ?_; rotate_left
                · clear hSw; go_simp; first | done | with_reducible rfl
                (try simp only [Act.put, List.setIfInBounds_toArray, List.set_cons_zero, List.set_cons_succ])
                refine wpAnyH_done (by kernel_rfl) ?_ _
                have st := hS.1
                clear hS
                go_wp2
                go_roundg (F.code.length - (k + 1))
                case measure => omega
                case rel => exact ⟨k + 1, by omega, rfl, by go_num, st⟩
              · clear hj1 hj2
                generalize mp.length = np at *
                have hl2 : (y :: y2 :: t).length = t.length + 2 := rfl
                rw [hl2] at hws3 Hcall
                have hne0 : ((t.length : Int) + 2 == 0) = false := by simp; omega
                have hne1 : ((t.length : Int) + 2 == 1) = false := by simp; omega
                clear hl2
                go_upto_region 10 with (first | go_skip | ((with_reducible refine at_load 30 rfl ?_); refine ld30 _ rfl _ rfl x F (St.bx (by assumption)) rfl ?_) | (go_at_call 19; refine (Hcall.out _ (St.fn (by assumption) hF.fn) (St.row (by assumption) hR)).mono ?_; rintro e wn ⟨A2, c2, rfl, hown2, hbn⟩; have st := St.next (by assumption) hbn; have h14 := st.c14; clear hbn) | (go_at_call 25; refine (Hof.out _ (St.fnx (by assumption) hF) (St.row (by assumption) hR)).mono ?_; rintro e wo ⟨A3, c3, rfl, hbn⟩; have hown2 := Own.stay hown2 hbn; have st := St.next (by assumption) hbn; have h14 := st.c14; clear hbn; have hxo := st.bx.lt) | ((with_reducible refine at_alloc 44 rfl ?_); refine al44 rfl rfl ?_; intro wq hr hbn hsr; have hbw := hbn; have st := St.next (by assumption) hbn; have h14 := st.c14; clear hbn) | ((with_reducible refine at_store 44 rfl ?_); refine wp_storebox 44 _ _ rfl rfl _ #[.int .i64 (k : Int), .int .i64 jk, .slice A3 np c3] rfl rfl hr (by kernel_rfl) rfl (all3 _ _ _ _ _) ?_; intro wz hr hbs hss hks; have st := St.low (by assumption) hbs (by omega); have hown2 := Own.below hown2 (hbw.trans hbs) (Nat.le_refl _); have h14 := st.c14; clear hbs hks) | (go_at_call 27; refine (Hlv.out _ (St.fn (by assumption) hF.fn) (St.row (by assumption) hR)).mono ?_; rintro e wl ⟨rfl, hbn⟩; have hown2 := Own.stay hown2 hbn; have hr := Bk.stay hr hbn; have st := St.next (by assumption) hbn; have h14 := st.c14; clear hbn; have r1 := (hr.cell 1).trans rfl; have r2 := (hr.cell 2).trans rfl; have hrl := hr.lt; have hxl := st.bx.lt))
                have hS : St w wl.drew w.heap.size x F ∧ Below wl.heap.size wl wl.drew := ⟨st.drew, (Below.refl _ _).drew⟩
                refine h_begin (S := fun w' => St w w' w.heap.size x F ∧ Below wl.heap.size wl w') 24 #[false, false, false, false, false, false, false, false, false, false, false, false, false, false, false, false, false, false, false, false, false, false, false, false] rfl rfl ?_
                refine h_take (v := ?_) 0 (some 51) rfl rfl (by kernel_rfl) (by kernel_rfl) (by kernel_rfl) (fun _ _ _ h => h) (by rfl) hS (fun wS hSw => ?_) #[true, false, false, false, false, false, false, false, false, false, false, false, false, false, false, false, false, false, false, false, false, false, false, false] rfl ?_; rotate_left
                · refine run_ld30 _ (.tmp 2) ?_ ?_ hSw.1.bx <;> rfl
                (try simp only [Act.put, List.setIfInBounds_toArray, List.set_cons_zero, List.set_cons_succ])
                refine h_take (v := ?_) 1 (some 52) rfl rfl (by kernel_rfl) (by kernel_rfl) (by kernel_rfl) (fun _ _ _ h => h) (by rfl) hS (fun wS hSw => ?_) #[true, true, false, false, false, false, false, false, false, false, false, false, false, false, false, false, false, false, false, false, false, false, false, false] rfl ?_; rotate_left
                · clear hSw; go_simp; first | done | with_reducible rfl
                (try simp only [Act.put, List.setIfInBounds_toArray, List.set_cons_zero, List.set_cons_succ])
                refine h_take (v := ?_) 2 (some 53) rfl rfl (by kernel_rfl) (by kernel_rfl) (by kernel_rfl) (fun _ _ _ h => h) (by rfl) hS (fun wS hSw => ?_) #[true, true, true, false, false, false, false, false, false, false, false, false, false, false, false, false, false, false, false, false, false, false, false, false] rfl ?_; rotate_left
                · clear hSw; go_simp; first | done | with_reducible rfl
                (try simp only [Act.put, List.setIfInBounds_toArray, List.set_cons_zero, List.set_cons_succ])
                refine h_call 3 (some 54) (by kernel_rfl) rfl rfl (by rfl) #[true, true, true, true, false, false, false, false, false, false, false, false, false, false, false, false, false, false, false, false, false, false, false, false] rfl (by go_simp; exact ⟨rfl, rfl⟩) ?_
                refine (Hlv.out _ (St.fn hS.1 hF.fn) (St.row hS.1 hR)).mono ?_
                rintro e wn ⟨rfl, hbn⟩
                refine ⟨_, rfl, ?_, ?_⟩
                · exact ⟨St.next hS.1 hbn, hS.2.trans (hbn.mono hS.2.size)⟩
                have hS : _ ∧ _ := ⟨St.next hS.1 hbn, hS.2.trans (hbn.mono hS.2.size)⟩
                (try simp only [Act.put, List.setIfInBounds_toArray, List.set_cons_zero, List.set_cons_succ])
                refine h_take (v := ?_) 4 (some 55) rfl rfl (by kernel_rfl) (by kernel_rfl) (by kernel_rfl) (fun _ _ _ h => h) (by rfl) hS (fun wS hSw => ?_) #[true, true, true, true, true, false, false, false, false, false, false, false, false, false, false, false, false, false, false, false, false, false, false, false] rfl ?_; rotate_left
                · clear hSw; go_simp; first | done | with_reducible rfl
                (try simp only [Act.put, List.setIfInBounds_toArray, List.set_cons_zero, List.set_cons_succ])
                refine h_take (v := ?_) 5 (some 56) rfl rfl (by kernel_rfl) (by kernel_rfl) (by kernel_rfl) (fun _ _ _ h => h) (by rfl) hS (fun wS hSw => ?_) #[true, true, true, true, true, true, false, false, false, false, false, false, false, false, false, false, false, false, false, false, false, false, false, false] rfl ?_; rotate_left
                · clear hSw; go_simp; first | done | with_reducible rfl
                (try simp only [Act.put, List.setIfInBounds_toArray, List.set_cons_zero, List.set_cons_succ])
                refine h_take (v := ?_) 6 (some 57) rfl rfl (by kernel_rfl) (by kernel_rfl) (by kernel_rfl) (fun _ _ _ h => h) (by rfl) hS (fun wS hSw => ?_) #[true, true, true, true, true, true, true, false, false, false, false, false, false, false, false, false, false, false, false, false, false, false, false, false] rfl ?_; rotate_left
                · clear hSw; go_simp; first | done | with_reducible rfl
                (try simp only [Act.put, List.setIfInBounds_toArray, List.set_cons_zero, List.set_cons_succ])
                refine h_take (v := ?_) 7 (some 58) rfl rfl (by kernel_rfl) (by kernel_rfl) (by kernel_rfl) (fun _ _ _ h => h) (by rfl) hS (fun wS hSw => ?_) #[true, true, true, true, true, true, true, true, false, false, false, false, false, false, false, false, false, false, false, false, false, false, false, false] rfl ?_; rotate_left
                · clear hSw; go_simp; first | done | with_reducible rfl
                (try simp only [Act.put, List.setIfInBounds_toArray, List.set_cons_zero, List.set_cons_succ])
                refine h_take (v := ?_) 8 (some 59) rfl rfl (by kernel_rfl) (by kernel_rfl) (by kernel_rfl) (fun _ _ _ h => h) (by rfl) hS (fun wS hSw => ?_) #[true, true, true, true, true, true, true, true, true, false, false, false, false, false, false, false, false, false, false, false, false, false, false, false] rfl ?_; rotate_left
                · clear hSw; go_simp; first | done | with_reducible rfl
                (try simp only [Act.put, List.setIfInBounds_toArray, List.set_cons_zero, List.set_cons_succ])
                refine h_take (v := ?_) 9 (some 60) rfl rfl (by kernel_rfl) (by kernel_rfl) (by kernel_rfl) (fun _ _ _ h => h) (by rfl) hS (fun wS hSw => ?_) #[true, true, true, true, true, true, true, true, true, true, false, false, false, false, false, false, false, false, false, false, false, false, false, false] rfl ?_; rotate_left
                · clear hSw; go_simp; first | done | with_reducible rfl
                (try simp only [Act.put, List.setIfInBounds_toArray, List.set_cons_zero, List.set_cons_succ])
                refine h_take (v := ?_) 10 (some 61) rfl rfl (by kernel_rfl) (by kernel_rfl) (by kernel_rfl) (fun _ _ _ h => h) (by rfl) hS (fun wS hSw => ?_) #[true, true, true, true, true, true, true, true, true, true, true, false, false, false, false, false, false, false, false, false, false, false, false, false] rfl ?_; rotate_left
                · clear hSw; go_simp; first | done | with_reducible rfl
                (try simp only [Act.put, List.setIfInBounds_toArray, List.set_cons_zero, List.set_cons_succ])
                refine h_skip 11 (some 62) rfl rfl (by kernel_rfl) (by kernel_rfl) (by kernel_rfl) (fun _ _ _ h => h) (by rfl) hS #[true, true, true, true, true, true, true, true, true, true, true, true, false, false, false, false, false, false, false, false, false, false, false, false] rfl ?_
                (try simp only [Act.put, List.setIfInBounds_toArray, List.set_cons_zero, List.set_cons_succ])
                refine h_skip 12 (some 63) rfl rfl (by kernel_rfl) (by kernel_rfl) (by kernel_rfl) (fun _ _ _ h => h) (by rfl) hS #[true, true, true, true, true, true, true, true, true, true, true, true, true, false, false, false, false, false, false, false, false, false, false, false] rfl ?_
                (try simp only [Act.put, List.setIfInBounds_toArray, List.set_cons_zero, List.set_cons_succ])
                refine h_skip 13 (some 64) rfl rfl (by kernel_rfl) (by kernel_rfl) (by kernel_rfl) (fun _ _ _ h => h) (by rfl) hS #[true, true, true, true, true, true, true, true, true, true, true, true, true, true, false, false, false, false, false, false, false, false, false, false] rfl ?_
                (try simp only [Act.put, List.setIfInBounds_toArray, List.set_cons_zero, List.set_cons_succ])
                refine h_skip 14 (some 65) rfl rfl (by kernel_rfl) (by kernel_rfl) (by kernel_rfl) (fun _ _ _ h => h) (by rfl) hS #[true, true, true, true, true, true, true, true, true, true, true, true, true, true, true, false, false, false, false, false, false, false, false, false] rfl ?_
                (try simp only [Act.put, List.setIfInBounds_toArray, List.set_cons_zero, List.set_cons_succ])
                refine h_skip 15 (some 66) rfl rfl (by kernel_rfl) (by kernel_rfl) (by kernel_rfl) (fun _ _ _ h => h) (by rfl) hS #[true, true, true, true, true, true, true, true, true, true, true, true, true, true, true, true, false, false, false, false, false, false, false, false] rfl ?_
                (try simp only [Act.put, List.setIfInBounds_toArray, List.set_cons_zero, List.set_cons_succ])
                refine h_skip 16 (some 67) rfl rfl (by kernel_rfl) (by kernel_rfl) (by kernel_rfl) (fun _ _ _ h => h) (by rfl) hS #[true, true, true, true, true, true, true, true, true, true, true, true, true, true, true, true, true, false, false, false, false, false, false, false] rfl ?_
                (try simp only [Act.put, List.setIfInBounds_toArray, List.set_cons_zero, List.set_cons_succ])
                refine h_skip 17 (some 68) rfl rfl (by kernel_rfl) (by kernel_rfl) (by kernel_rfl) (fun _ _ _ h => h) (by rfl) hS #[true, true, true, true, true, true, true, true, true, true, true, true, true, true, true, true, true, true, false, false, false, false, false, false] rfl ?_
                (try simp only [Act.put, List.setIfInBounds_toArray, List.set_cons_zero, List.set_cons_succ])
                refine h_skip 18 (some 69) rfl rfl (by kernel_rfl) (by kernel_rfl) (by kernel_rfl) (fun _ _ _ h => h) (by rfl) hS #[true, true, true, true, true, true, true, true, true, true, true, true, true, true, true, true, true, true, true, false, false, false, false, false] rfl ?_
                (try simp only [Act.put, List.setIfInBounds_toArray, List.set_cons_zero, List.set_cons_succ])
                refine h_skip 19 (some 70) rfl rfl (by kernel_rfl) (by kernel_rfl) (by kernel_rfl) (fun _ _ _ h => h) (by rfl) hS #[true, true, true, true, true, true, true, true, true, true, true, true, true, true, true, true, true, true, true, true, false, false, false, false] rfl ?_
                (try simp only [Act.put, List.setIfInBounds_toArray, List.set_cons_zero, List.set_cons_succ])
                refine h_skip 20 (some 71) rfl rfl (by kernel_rfl) (by kernel_rfl) (by kernel_rfl) (fun _ _ _ h => h) (by rfl) hS #[true, true, true, true, true, true, true, true, true, true, true, true, true, true, true, true, true, true, true, true, true, false, false, false] rfl ?_
                (try simp only [Act.put, List.setIfInBounds_toArray, List.set_cons_zero, List.set_cons_succ])
                refine h_skip 21 (some 72) rfl rfl (by kernel_rfl) (by kernel_rfl) (by kernel_rfl) (fun _ _ _ h => h) (by rfl) hS #[true, true, true, true, true, true, true, true, true, true, true, true, true, true, true, true, true, true, true, true, true, true, false, false] rfl ?_
                (try simp only [Act.put, List.setIfInBounds_toArray, List.set_cons_zero, List.set_cons_succ])
                refine h_skip 22 (some 73) rfl rfl (by kernel_rfl) (by kernel_rfl) (by kernel_rfl) (fun _ _ _ h => h) (by rfl) hS #[true, true, true, true, true, true, true, true, true, true, true, true, true, true, true, true, true, true, true, true, true, true, true, false] rfl ?_
                (try simp only [Act.put, List.setIfInBounds_toArray, List.set_cons_zero, List.set_cons_succ])
                refine h_take (v := ?_) 23 (some 74) rfl rfl (by kernel_rfl) (by kernel_rfl) (by kernel_rfl) (fun _ _ _ h => h) (by rfl) hS (fun wS hSw => ?_) #[true, true, true, true, true, true, true, true, true, true, true, true, true, true, true, true, true, true, true, true, true, true, true, true] rfl ?_; rotate_left
                · clear hSw; go_simp; first | done | with_reducible rfl
                (try simp only [Act.put, List.setIfInBounds_toArray, List.set_cons_zero, List.set_cons_succ])
                refine wpAnyH_done (by kernel_rfl) ?_ _
                have st := hS.1
                clear hS
                go_wp2
                go_roundg (F.code.length - (k + 1))
                case measure => omega
                case rel => exact ⟨k + 1, by omega, rfl, by go_num, st⟩
        · go_wp2
          go_ret
          exact ⟨rfl, st.hb⟩
  · have hfew : (decide (F.code.length ≤ 40) && decide (F.hs.length ≤ 40) && decide (rs.length ≤ 1000)) = false := by simpa using hfew
    have Hfew := Lib.hid hfew
    clear hfew
    go_enter Try.func10, Try.ntmps10
    go_wp2_with (first | go_skip | ((with_reducible refine at_box 30 rfl ?_); refine bx30 _ rfl x F rfl rfl ?_; intro w1 hbx hb1 hs1; have st := St.new hbx hb1; have ho := st.old; have h14 := st.c14; have h15 := st.c15; clear hbx hb1 hs1) | ((with_reducible refine at_load 30 rfl ?_); refine ld30 _ rfl _ rfl x F (St.bx (by assumption)) rfl ?_) | (go_at_call 20; refine (awake16 _).mono ?_; rintro e wa ⟨rfl, hbn⟩; have st := St.next (by assumption) hbn; have h14 := st.c14; clear hbn) | (go_at_call 21; refine (few16 x F R rs.length rc _ false Hfew.out.symm).mono ?_; rintro e wf ⟨rfl, hbn⟩; have st := St.next (by assumption) hbn; have h14 := st.c14; clear hbn))
    go_ret
    exact ⟨rfl, st.hb⟩
end Go.Proofs.Ytnnhlnefhndpdaa
