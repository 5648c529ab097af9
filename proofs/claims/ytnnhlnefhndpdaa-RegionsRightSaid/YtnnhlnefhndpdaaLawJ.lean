/- The walk of RegionsRight: whatever comes in, it returns true and only makes memory. -/
import Derived.Test.YtnnhlnefhndpdaaWalkY
import Derived.Test.YtnnhlnefhndpdaaWalkV
import Derived.Test.YtnnhlnefhndpdaaWalkS
import Derived.Test.YtnnhlnefhndpdaaWalkU
namespace Go.Proofs.Ytnnhlnefhndpdaa
open Go.RowKit
set_option linter.unusedSimpArgs false
set_option linter.unusedVariables false

theorem OwnR.low0 {w : World} {base : Nat} {A : Option Addr} {c : Nat} {es : List RE} (h : OwnR w base A c es) : OwnR w 0 A c es := by
  refine ⟨⟨h.own.1, ?_⟩, fun e he => ?_⟩
  · rcases h.own.2 with hn | ⟨g, cap, cur, hv, hg, r⟩
    · exact .inl hn
    · exact .inr ⟨g, cap, cur, hv, Nat.zero_le _, r⟩
  · rcases h.pl e he with h | ⟨B', off, h1, h2, h3⟩
    · exact .inl h
    · exact .inr ⟨B', off, h1, Nat.zero_le _, h3⟩

set_option maxHeartbeats 8000000 in
set_option maxRecDepth 100000 in
theorem regionsRight_walk (x : FX) (F : Fn) (R : Option Addr) (rs : List Bool) (rc : Nat) (w : World) (hF : FnX w x F) (hR : Row w 0 R (boolsV rs)) :
    Calls Try.prog 12 #[x.val F, .slice R rs.length rc] w fun e w' => e = .returned (.bool true) ∧ Below w.heap.size w w' := by
  by_cases hfew : (decide (F.code.length ≤ 40) && decide (F.hs.length ≤ 40) && decide (rs.length ≤ 1000)) = true
  · have hb3 : F.code.length ≤ 40 ∧ F.hs.length ≤ 40 ∧ rs.length ≤ 1000 := by simpa [and_assoc] using hfew
    obtain ⟨hb0, hb1, hb2⟩ := hb3
    have Hfew := Lib.hid hfew
    clear hfew
    have hah := fun (W : World) (h : FnAt W x F) => rahead_any x F W h (by omega) (by omega)
    cases ha : F.ahead
    all_goals
      rw [ha] at hah
      have Hah := Lib.hid hah
      clear hah
    · go_enter Try.func12, Try.ntmps12
      go_wp2_with (first | go_skip | ((with_reducible refine at_box 30 rfl ?_); refine bx30 _ rfl x F rfl rfl ?_; intro w1 hbx hb1 hs1; have st := St.new hbx hb1; have ho := st.old; have h14 := st.c14; have h15 := st.c15; clear hbx hb1 hs1) | ((with_reducible refine at_load 30 rfl ?_); refine ld30 _ rfl _ rfl x F (St.bx (by assumption)) rfl ?_) | (go_at_call 20; refine (awake16 _).mono ?_; rintro e wa ⟨rfl, hbn⟩; have st := St.next (by assumption) hbn; have h14 := st.c14; clear hbn) | (go_at_call 21; refine (few16 x F R rs.length rc _ true Hfew.out.symm).mono ?_; rintro e wf ⟨rfl, hbn⟩; have st := St.next (by assumption) hbn; have h14 := st.c14; clear hbn) | (go_at_call 24; refine (Hah.out _ (St.fn (by assumption) hF.fn)).mono ?_; rintro e wh ⟨rfl, hbn⟩; have st := St.next (by assumption) hbn; have h14 := st.c14; clear hbn))
      go_ret
      exact ⟨rfl, st.hb⟩
    · have Ha := Lib.hid ha
      clear ha
      go_enter Try.func12, Try.ntmps12
      go_wp2_with (first | go_skip | ((with_reducible refine at_box 30 rfl ?_); refine bx30 _ rfl x F rfl rfl ?_; intro w1 hbx hb1 hs1; have st := St.new hbx hb1; have ho := st.old; have h14 := st.c14; have h15 := st.c15; clear hbx hb1 hs1) | ((with_reducible refine at_load 30 rfl ?_); refine ld30 _ rfl _ rfl x F (St.bx (by assumption)) rfl ?_) | (go_at_call 20; refine (awake16 _).mono ?_; rintro e wa ⟨rfl, hbn⟩; have st := St.next (by assumption) hbn; have h14 := st.c14; clear hbn) | (go_at_call 21; refine (few16 x F R rs.length rc _ true Hfew.out.symm).mono ?_; rintro e wf ⟨rfl, hbn⟩; have st := St.next (by assumption) hbn; have h14 := st.c14; clear hbn) | (go_at_call 24; refine (Hah.out _ (St.fn (by assumption) hF.fn)).mono ?_; rintro e wh ⟨rfl, hbn⟩; have st := St.next (by assumption) hbn; have h14 := st.c14; clear hbn) | (go_at_call 31; refine (make_any x F R rs rc _ (St.fnx (by assumption) hF) (St.row (by assumption) hR) (by omega) (by omega)).mono ?_; rintro e wm ⟨A, c, es, rfl, HE, hown, hbn⟩; have st := St.next (by assumption) hbn; have h14 := st.c14; clear hbn))
      have HE : Hid (es.map RE.r = mkTo F rs F.code.length) := Lib.hid (by rw [HE.out, makeF_yes Ha.out])
      have hown := hown.low0
      go_loopg [6, 7] F.code.length (fun g s t wr => ∃ (i q : Nat), i ≤ F.code.length ∧ g = F.code.length - i ∧ t = .int .i64 i ∧ s = .int .i64 q ∧ Hid (q = (mkTo F rs i).length) ∧ OwnR wr 0 A c es ∧ St w wr w.heap.size x F)
      case atStart => exact ⟨0, 0, Nat.zero_le _, rfl, rfl, rfl, rfl, hown, st⟩
      case round =>
        clear st hown h14
        obtain ⟨i, q, hi, rfl, rfl, rfl, HQ, hown, st⟩ := hrel
        have ho := st.old
        have h14 := st.c14
        have hq40 : q ≤ 40 := by
          have := mkTo_length F rs i
          have := HQ.out
          omega
        by_cases hlt : i < F.code.length
        · have hbr := fun W h1 h2 => branches_any x F R rs rc i W h1 h2
          have hof : ∀ W, FnX W x F → Row W 0 R (boolsV rs) → Calls Try.prog 25 #[x.val F, .slice R rs.length rc, .int .i64 i] W fun e w' => ∃ A c, e = .returned (.agg #[.int .i64 (i : Int), .int .i64 (jn F rs i), .slice A (made F rs i).pl.length c]) ∧ Own w' W.heap.size A c (made F rs i).pl ∧ Below W.heap.size W w' := by
            intro W h1 h2
            refine (of_any x F R rs rc i W h1 h2 (by omega) (by omega)).mono ?_
            rw [ofF_yes (Fn.place_of_nat hlt) Ha.out]
            rintro e w' ⟨A, c, rfl, hw, hb⟩
            exact ⟨A, c, rfl, hw, hb⟩
          have hH := made_holds (F := F) (rs := rs) (Fn.place_of_nat hlt)
          have hmk : made F rs i = ⟨i, jn F rs i, (made F rs i).pl⟩ := rfl
          have hahd := fun y hy => @made_ahead F rs i Ha.out y hy
          have hin : decide (jn F rs i ∈ (made F rs i).pl) = false := decide_eq_false fun h => (hahd _ h).2 rfl
          have hja := @jn_ahead F rs i Ha.out
          have hpl : (made F rs i).pl.length ≤ F.code.length := reachL_length _ _ _ _
          have Hmk := Lib.hid hmk
          have Hof := Lib.hid hof
          have Hahd := Lib.hid (fun y hy => (hahd y hy).1)
          clear hmk hof hahd
          generalize (made F rs i).pl = mp at *
          generalize jn F rs i = jk at *
          go_upto_region 11 with (first | ((with_reducible refine at_load 30 rfl ?_); refine ld30 _ rfl _ rfl x F (St.bx (by assumption)) rfl ?_) | (go_at_call 25; refine (Hof.out _ (St.fnx (by assumption) hF) (St.row (by assumption) hR)).mono ?_; rintro e wo ⟨A3, c3, rfl, hown3, hbn⟩; have hown := OwnR.stay hown hbn; have st := St.next (by assumption) hbn; have h14 := st.c14; clear hbn; have hxo := st.bx.lt) | ((with_reducible refine at_alloc 44 rfl ?_); refine al44 rfl rfl ?_; intro wq hr hbn hsr; have hbw := hbn; have st := St.next (by assumption) hbn; have h14 := st.c14; clear hbn) | ((with_reducible refine at_store 44 rfl ?_); refine wp_storebox 44 _ _ rfl rfl _ #[.int .i64 (i : Int), .int .i64 jk, .slice A3 mp.length c3] rfl rfl hr (by kernel_rfl) rfl (all3 _ _ _ _ _) ?_; intro wz hr hbs hss hks; have st := St.low (by assumption) hbs (by omega); have hown3 := Own.below hown3 (hbw.trans hbs) (Nat.le_refl _); have hown := OwnR.below hown (hbw.trans hbs) (Nat.le_refl _); have h14 := st.c14; have r0 := (hr.cell 0).trans rfl; have r1 := (hr.cell 1).trans rfl; have r2 := (hr.cell 2).trans rfl; have hrl := hr.lt; clear hbs hks) | ((with_reducible refine at_load 44 rfl ?_); refine wp_loadbox 44 _ rfl _ rfl _ hr _ Try.underlying44 rfl (by kernel_rfl) rfl ?_) | (go_at_call 22; refine (holds_any x F R A3 rs rc i jk mp c3 _ (St.fnx (by assumption) hF) (St.row (by assumption) hR) (hown3.row.lower (Nat.zero_le _)) (by omega) (by omega) (by omega)).mono ?_; rw [hH]; rintro e wh ⟨rfl, hbn⟩; have hr := Bk.stay hr hbn; have hown3 := Own.stay hown3 hbn; have hown := OwnR.stay hown hbn; have st := St.next (by assumption) hbn; have h14 := st.c14; clear hbn; have r0 := (hr.cell 0).trans rfl; have r1 := (hr.cell 1).trans rfl; have r2 := (hr.cell 2).trans rfl; have hrl := hr.lt) | (go_at_call 18; refine (in_is A3 mp c3 jk _ false (hown3.row.lower (Nat.zero_le _)) (by omega) hin).mono ?_; rintro e wi ⟨rfl, hbn⟩; have hr := Bk.stay hr hbn; have hown3 := Own.stay hown3 hbn; have hown := OwnR.stay hown hbn; have st := St.next (by assumption) hbn; have h14 := st.c14; clear hbn; have r0 := (hr.cell 0).trans rfl; have r1 := (hr.cell 1).trans rfl; have r2 := (hr.cell 2).trans rfl; have hrl := hr.lt))
          clear hin hH
          by_cases hpos : 0 < mp.length
          · obtain ⟨By, oy, hAy, -, hBy, hy0⟩ := hown3.row.int_at (k := 0) hpos
            have hiy : ∀ W, (Instr.indexAt 32 (.slice A3 mp.length c3) (.int .i64 0)).run Try.prog W = .ok (.pointer (some ⟨By, oy, none⟩)) W := fun W => ix32 hAy (k := 0) hpos c3 W
            have hyl := Hahd.out _ (getD_mem hpos)
            rw [Nat.add_zero] at hy0
            clear hAy
            generalize mp.getD 0 0 = y at *
            have hyd : decide (y ≤ (i : Int)) = false := by simpa using hyl
            clear hyl
            by_cases hj : (jk != -1) = true
            · have hjd : decide (jk ≤ (i : Int)) = false := by
                have := hja (by simpa using hj)
                simpa using this
              clear hja
              cases hb : F.branches rs i
              · rw [hb] at hbr
                have Hbr := Lib.hid hbr
                have HN := Lib.hid (mkTo_no hb)
                clear hbr hb
                go_wp2_with (first | ((with_reducible refine at_load 30 rfl ?_); refine ld30 _ rfl _ rfl x F (St.bx (by assumption)) rfl ?_) | (go_at_call 33; refine (Hbr.out _ (St.fn (by assumption) hF.fn) (St.row (by assumption) hR)).mono ?_; rintro e wb ⟨rfl, hbn⟩; have hr := Bk.stay hr hbn; have hown3 := Own.stay hown3 hbn; have hown := OwnR.stay hown hbn; have st := St.next (by assumption) hbn; have h14 := st.c14; clear hbn; have r0 := (hr.cell 0).trans rfl; have r1 := (hr.cell 1).trans rfl; have r2 := (hr.cell 2).trans rfl; have hrl := hr.lt))
                go_roundg (F.code.length - (i + 1))
                case measure => omega
                case rel => exact ⟨i + 1, q, by omega, rfl, by go_num, rfl, Lib.hid (by rw [HN.out]; exact HQ.out), hown, st⟩
              · have hat := mkTo_at hlt hb
                rw [← HQ.out, ← HE.out, List.getElem?_map] at hat
                have hql : q < es.length := by
                  rcases Nat.lt_or_ge q es.length with h | h
                  · exact h
                  · rw [List.getElem?_eq_none h] at hat; cases hat
                rw [hb] at hbr
                have Hbr := Lib.hid hbr
                have HN := Lib.hid (mkTo_yes hb)
                have Hat := Lib.hid hat
                have hqd : decide (es.length ≤ q) = false := decide_eq_false (by omega)
                have hqe : decide ((es.length : Int) ≤ (q : Int)) = false := decide_eq_false (by omega)
                clear hbr hb hat
                go_upto_region 14 with (first | ((with_reducible refine at_load 30 rfl ?_); refine ld30 _ rfl _ rfl x F (St.bx (by assumption)) rfl ?_) | (go_at_call 33; refine (Hbr.out _ (St.fn (by assumption) hF.fn) (St.row (by assumption) hR)).mono ?_; rintro e wb ⟨rfl, hbn⟩; have hr := Bk.stay hr hbn; have hown3 := Own.stay hown3 hbn; have hown := OwnR.stay hown hbn; have st := St.next (by assumption) hbn; have h14 := st.c14; clear hbn; have r0 := (hr.cell 0).trans rfl; have r1 := (hr.cell 1).trans rfl; have r2 := (hr.cell 2).trans rfl; have hrl := hr.lt))
                obtain ⟨g1, ⟨r1', B1, d1⟩, hA1, he1, hg1, hr1, p0, p1, p2⟩ := hown.at_ hql
                have hre : r1' = ⟨i, jk, mp⟩ := by
                  have h1 := Hat.out
                  rw [he1] at h1
                  exact (Option.some.inj h1).trans Hmk.out
                subst hre
                have hix := ix28 hA1 hql c
                simp only [Nat.zero_add] at hix p0 p1 p2
                clear hA1 he1
                have hS : St w wb.drew w.heap.size x F ∧ Below wb.heap.size wb wb.drew := ⟨st.drew, (Below.refl _ _).drew⟩
                refine h_begin (S := fun w' => St w w' w.heap.size x F ∧ Below wb.heap.size wb w') 13 #[false, false, false, false, false, false, false, false, false, false, false, false, false] rfl rfl ?_
                refine h_take (v := ?_) 0 (some 82) rfl rfl (by kernel_rfl) (by kernel_rfl) (by kernel_rfl) (fun _ _ _ h => h) (by rfl) hS (fun wS hSw => ?_) #[true, false, false, false, false, false, false, false, false, false, false, false, false] rfl ?_; rotate_left
                · clear hSw; go_simp; first | done | with_reducible rfl
                (try simp only [Act.put, List.setIfInBounds_toArray, List.set_cons_zero, List.set_cons_succ])
                refine h_take (v := ?_) 1 (some 83) rfl rfl (by kernel_rfl) (by kernel_rfl) (by kernel_rfl) (fun _ _ _ h => h) (by rfl) hS (fun wS hSw => ?_) #[true, true, false, false, false, false, false, false, false, false, false, false, false] rfl ?_; rotate_left
                · clear hSw; go_simp; first | done | with_reducible rfl
                (try simp only [Act.put, List.setIfInBounds_toArray, List.set_cons_zero, List.set_cons_succ])
                refine h_take (v := ?_) 2 (some 84) rfl rfl (by kernel_rfl) (by kernel_rfl) (by kernel_rfl) (fun _ _ _ h => h) (by rfl) hS (fun wS hSw => ?_) #[true, true, true, false, false, false, false, false, false, false, false, false, false] rfl ?_; rotate_left
                · clear hSw; go_simp; first | done | with_reducible rfl
                (try simp only [Act.put, List.setIfInBounds_toArray, List.set_cons_zero, List.set_cons_succ])
                refine h_take (v := ?_) 3 (some 85) rfl rfl (by kernel_rfl) (by kernel_rfl) (by kernel_rfl) (fun _ _ _ h => h) (by rfl) hS (fun wS hSw => ?_) #[true, true, true, true, false, false, false, false, false, false, false, false, false] rfl ?_; rotate_left
                · clear hSw; go_simp; first | done | with_reducible rfl
                (try simp only [Act.put, List.setIfInBounds_toArray, List.set_cons_zero, List.set_cons_succ])
                refine h_take (v := ?_) 4 (some 86) rfl rfl (by kernel_rfl) (by kernel_rfl) (by kernel_rfl) (fun _ _ _ h => h) (by rfl) hS (fun wS hSw => ?_) #[true, true, true, true, true, false, false, false, false, false, false, false, false] rfl ?_; rotate_left
                · clear hSw; go_simp; first | done | with_reducible rfl
                (try simp only [Act.put, List.setIfInBounds_toArray, List.set_cons_zero, List.set_cons_succ])
                refine h_take (v := ?_) 5 (some 87) rfl rfl (by kernel_rfl) (by kernel_rfl) (by kernel_rfl) (fun _ _ _ h => h) (by rfl) hS (fun wS hSw => ?_) #[true, true, true, true, true, true, false, false, false, false, false, false, false] rfl ?_; rotate_left
                · clear hSw; go_simp; first | done | with_reducible rfl
                (try simp only [Act.put, List.setIfInBounds_toArray, List.set_cons_zero, List.set_cons_succ])
                refine h_take (v := ?_) 6 (some 88) rfl rfl (by kernel_rfl) (by kernel_rfl) (by kernel_rfl) (fun _ _ _ h => h) (by rfl) hS (fun wS hSw => ?_) #[true, true, true, true, true, true, true, false, false, false, false, false, false] rfl ?_; rotate_left
                · clear hSw; go_simp; first | done | with_reducible rfl
                (try simp only [Act.put, List.setIfInBounds_toArray, List.set_cons_zero, List.set_cons_succ])
                refine h_take (v := ?_) 7 (some 89) rfl rfl (by kernel_rfl) (by kernel_rfl) (by kernel_rfl) (fun _ _ _ h => h) (by rfl) hS (fun wS hSw => ?_) #[true, true, true, true, true, true, true, true, false, false, false, false, false] rfl ?_; rotate_left
                · have hc := cells_of hSw.2; go_simp; first | done | with_reducible rfl
                (try simp only [Act.put, List.setIfInBounds_toArray, List.set_cons_zero, List.set_cons_succ])
                refine h_take (v := ?_) 8 (some 90) rfl rfl (by kernel_rfl) (by kernel_rfl) (by kernel_rfl) (fun _ _ _ h => h) (by rfl) hS (fun wS hSw => ?_) #[true, true, true, true, true, true, true, true, true, false, false, false, false] rfl ?_; rotate_left
                · have hc := cells_of hSw.2; go_simp; first | done | with_reducible rfl
                (try simp only [Act.put, List.setIfInBounds_toArray, List.set_cons_zero, List.set_cons_succ])
                refine h_take (v := ?_) 9 (some 91) rfl rfl (by kernel_rfl) (by kernel_rfl) (by kernel_rfl) (fun _ _ _ h => h) (by rfl) hS (fun wS hSw => ?_) #[true, true, true, true, true, true, true, true, true, true, false, false, false] rfl ?_; rotate_left
                · refine run_ld44 _ (.tmp 8) ?_ ?_ (hr.below hSw.2 hrl) rfl <;> rfl
                (try simp only [Act.put, List.setIfInBounds_toArray, List.set_cons_zero, List.set_cons_succ])
                refine h_call 10 (some 92) (by kernel_rfl) rfl rfl (by rfl) #[true, true, true, true, true, true, true, true, true, true, true, false, false] rfl (by go_simp; exact ⟨rfl, rfl⟩) ?_
                refine (same44_eq ⟨i, jk, mp⟩ B1 A3 d1 c3 _ (hr1.stay hS.2) ((hown3.row.lower (Nat.zero_le _)).stay hS.2) (by show mp.length ≤ 100000; omega)).mono ?_
                rintro e wn ⟨rfl, hbn⟩
                refine ⟨_, rfl, ?_, ?_⟩
                · exact ⟨St.next hS.1 hbn, hS.2.trans (hbn.mono hS.2.size)⟩
                have hS : _ ∧ _ := ⟨St.next hS.1 hbn, hS.2.trans (hbn.mono hS.2.size)⟩
                (try simp only [Act.put, List.setIfInBounds_toArray, List.set_cons_zero, List.set_cons_succ])
                refine h_take (v := ?_) 11 (some 93) rfl rfl (by kernel_rfl) (by kernel_rfl) (by kernel_rfl) (fun _ _ _ h => h) (by rfl) hS (fun wS hSw => ?_) #[true, true, true, true, true, true, true, true, true, true, true, true, false] rfl ?_; rotate_left
                · clear hSw; go_simp; first | done | with_reducible rfl
                (try simp only [Act.put, List.setIfInBounds_toArray, List.set_cons_zero, List.set_cons_succ])
                refine h_take (v := ?_) 12 (some 94) rfl rfl (by kernel_rfl) (by kernel_rfl) (by kernel_rfl) (fun _ _ _ h => h) (by rfl) hS (fun wS hSw => ?_) #[true, true, true, true, true, true, true, true, true, true, true, true, true] rfl ?_; rotate_left
                · clear hSw; go_simp; first | done | with_reducible rfl
                (try simp only [Act.put, List.setIfInBounds_toArray, List.set_cons_zero, List.set_cons_succ])
                refine wpAnyH_done (by kernel_rfl) ?_ _
                have st := hS.1
                have hown := hown.stay hS.2
                clear hS
                go_wp2
                go_roundg (F.code.length - (i + 1))
                case measure => omega
                case rel => exact ⟨i + 1, q + 1, by omega, rfl, by go_num, by go_num, Lib.hid (by rw [HN.out, List.length_append, HQ.out]; rfl), hown, st⟩
            · have hj : (jk != -1) = false := by simpa using hj
              clear hja
              cases hb : F.branches rs i
              · rw [hb] at hbr
                have Hbr := Lib.hid hbr
                have HN := Lib.hid (mkTo_no hb)
                clear hbr hb
                go_wp2_with (first | ((with_reducible refine at_load 30 rfl ?_); refine ld30 _ rfl _ rfl x F (St.bx (by assumption)) rfl ?_) | (go_at_call 33; refine (Hbr.out _ (St.fn (by assumption) hF.fn) (St.row (by assumption) hR)).mono ?_; rintro e wb ⟨rfl, hbn⟩; have hr := Bk.stay hr hbn; have hown3 := Own.stay hown3 hbn; have hown := OwnR.stay hown hbn; have st := St.next (by assumption) hbn; have h14 := st.c14; clear hbn; have r0 := (hr.cell 0).trans rfl; have r1 := (hr.cell 1).trans rfl; have r2 := (hr.cell 2).trans rfl; have hrl := hr.lt))
                go_roundg (F.code.length - (i + 1))
                case measure => omega
                case rel => exact ⟨i + 1, q, by omega, rfl, by go_num, rfl, Lib.hid (by rw [HN.out]; exact HQ.out), hown, st⟩
              · have hat := mkTo_at hlt hb
                rw [← HQ.out, ← HE.out, List.getElem?_map] at hat
                have hql : q < es.length := by
                  rcases Nat.lt_or_ge q es.length with h | h
                  · exact h
                  · rw [List.getElem?_eq_none h] at hat; cases hat
                rw [hb] at hbr
                have Hbr := Lib.hid hbr
                have HN := Lib.hid (mkTo_yes hb)
                have Hat := Lib.hid hat
                have hqd : decide (es.length ≤ q) = false := decide_eq_false (by omega)
                have hqe : decide ((es.length : Int) ≤ (q : Int)) = false := decide_eq_false (by omega)
                clear hbr hb hat
                go_upto_region 14 with (first | ((with_reducible refine at_load 30 rfl ?_); refine ld30 _ rfl _ rfl x F (St.bx (by assumption)) rfl ?_) | (go_at_call 33; refine (Hbr.out _ (St.fn (by assumption) hF.fn) (St.row (by assumption) hR)).mono ?_; rintro e wb ⟨rfl, hbn⟩; have hr := Bk.stay hr hbn; have hown3 := Own.stay hown3 hbn; have hown := OwnR.stay hown hbn; have st := St.next (by assumption) hbn; have h14 := st.c14; clear hbn; have r0 := (hr.cell 0).trans rfl; have r1 := (hr.cell 1).trans rfl; have r2 := (hr.cell 2).trans rfl; have hrl := hr.lt))
                obtain ⟨g1, ⟨r1', B1, d1⟩, hA1, he1, hg1, hr1, p0, p1, p2⟩ := hown.at_ hql
                have hre : r1' = ⟨i, jk, mp⟩ := by
                  have h1 := Hat.out
                  rw [he1] at h1
                  exact (Option.some.inj h1).trans Hmk.out
                subst hre
                have hix := ix28 hA1 hql c
                simp only [Nat.zero_add] at hix p0 p1 p2
                clear hA1 he1
                have hS : St w wb.drew w.heap.size x F ∧ Below wb.heap.size wb wb.drew := ⟨st.drew, (Below.refl _ _).drew⟩
                refine h_begin (S := fun w' => St w w' w.heap.size x F ∧ Below wb.heap.size wb w') 13 #[false, false, false, false, false, false, false, false, false, false, false, false, false] rfl rfl ?_
                refine h_take (v := ?_) 0 (some 82) rfl rfl (by kernel_rfl) (by kernel_rfl) (by kernel_rfl) (fun _ _ _ h => h) (by rfl) hS (fun wS hSw => ?_) #[true, false, false, false, false, false, false, false, false, false, false, false, false] rfl ?_; rotate_left
                · clear hSw; go_simp; first | done | with_reducible rfl
                (try simp only [Act.put, List.setIfInBounds_toArray, List.set_cons_zero, List.set_cons_succ])
                refine h_take (v := ?_) 1 (some 83) rfl rfl (by kernel_rfl) (by kernel_rfl) (by kernel_rfl) (fun _ _ _ h => h) (by rfl) hS (fun wS hSw => ?_) #[true, true, false, false, false, false, false, false, false, false, false, false, false] rfl ?_; rotate_left
                · clear hSw; go_simp; first | done | with_reducible rfl
                (try simp only [Act.put, List.setIfInBounds_toArray, List.set_cons_zero, List.set_cons_succ])
                refine h_take (v := ?_) 2 (some 84) rfl rfl (by kernel_rfl) (by kernel_rfl) (by kernel_rfl) (fun _ _ _ h => h) (by rfl) hS (fun wS hSw => ?_) #[true, true, true, false, false, false, false, false, false, false, false, false, false] rfl ?_; rotate_left
                · clear hSw; go_simp; first | done | with_reducible rfl
                (try simp only [Act.put, List.setIfInBounds_toArray, List.set_cons_zero, List.set_cons_succ])
                refine h_take (v := ?_) 3 (some 85) rfl rfl (by kernel_rfl) (by kernel_rfl) (by kernel_rfl) (fun _ _ _ h => h) (by rfl) hS (fun wS hSw => ?_) #[true, true, true, true, false, false, false, false, false, false, false, false, false] rfl ?_; rotate_left
                · clear hSw; go_simp; first | done | with_reducible rfl
                (try simp only [Act.put, List.setIfInBounds_toArray, List.set_cons_zero, List.set_cons_succ])
                refine h_take (v := ?_) 4 (some 86) rfl rfl (by kernel_rfl) (by kernel_rfl) (by kernel_rfl) (fun _ _ _ h => h) (by rfl) hS (fun wS hSw => ?_) #[true, true, true, true, true, false, false, false, false, false, false, false, false] rfl ?_; rotate_left
                · clear hSw; go_simp; first | done | with_reducible rfl
                (try simp only [Act.put, List.setIfInBounds_toArray, List.set_cons_zero, List.set_cons_succ])
                refine h_take (v := ?_) 5 (some 87) rfl rfl (by kernel_rfl) (by kernel_rfl) (by kernel_rfl) (fun _ _ _ h => h) (by rfl) hS (fun wS hSw => ?_) #[true, true, true, true, true, true, false, false, false, false, false, false, false] rfl ?_; rotate_left
                · clear hSw; go_simp; first | done | with_reducible rfl
                (try simp only [Act.put, List.setIfInBounds_toArray, List.set_cons_zero, List.set_cons_succ])
                refine h_take (v := ?_) 6 (some 88) rfl rfl (by kernel_rfl) (by kernel_rfl) (by kernel_rfl) (fun _ _ _ h => h) (by rfl) hS (fun wS hSw => ?_) #[true, true, true, true, true, true, true, false, false, false, false, false, false] rfl ?_; rotate_left
                · clear hSw; go_simp; first | done | with_reducible rfl
                (try simp only [Act.put, List.setIfInBounds_toArray, List.set_cons_zero, List.set_cons_succ])
                refine h_take (v := ?_) 7 (some 89) rfl rfl (by kernel_rfl) (by kernel_rfl) (by kernel_rfl) (fun _ _ _ h => h) (by rfl) hS (fun wS hSw => ?_) #[true, true, true, true, true, true, true, true, false, false, false, false, false] rfl ?_; rotate_left
                · have hc := cells_of hSw.2; go_simp; first | done | with_reducible rfl
                (try simp only [Act.put, List.setIfInBounds_toArray, List.set_cons_zero, List.set_cons_succ])
                refine h_take (v := ?_) 8 (some 90) rfl rfl (by kernel_rfl) (by kernel_rfl) (by kernel_rfl) (fun _ _ _ h => h) (by rfl) hS (fun wS hSw => ?_) #[true, true, true, true, true, true, true, true, true, false, false, false, false] rfl ?_; rotate_left
                · have hc := cells_of hSw.2; go_simp; first | done | with_reducible rfl
                (try simp only [Act.put, List.setIfInBounds_toArray, List.set_cons_zero, List.set_cons_succ])
                refine h_take (v := ?_) 9 (some 91) rfl rfl (by kernel_rfl) (by kernel_rfl) (by kernel_rfl) (fun _ _ _ h => h) (by rfl) hS (fun wS hSw => ?_) #[true, true, true, true, true, true, true, true, true, true, false, false, false] rfl ?_; rotate_left
                · refine run_ld44 _ (.tmp 8) ?_ ?_ (hr.below hSw.2 hrl) rfl <;> rfl
                (try simp only [Act.put, List.setIfInBounds_toArray, List.set_cons_zero, List.set_cons_succ])
                refine h_call 10 (some 92) (by kernel_rfl) rfl rfl (by rfl) #[true, true, true, true, true, true, true, true, true, true, true, false, false] rfl (by go_simp; exact ⟨rfl, rfl⟩) ?_
                refine (same44_eq ⟨i, jk, mp⟩ B1 A3 d1 c3 _ (hr1.stay hS.2) ((hown3.row.lower (Nat.zero_le _)).stay hS.2) (by show mp.length ≤ 100000; omega)).mono ?_
                rintro e wn ⟨rfl, hbn⟩
                refine ⟨_, rfl, ?_, ?_⟩
                · exact ⟨St.next hS.1 hbn, hS.2.trans (hbn.mono hS.2.size)⟩
                have hS : _ ∧ _ := ⟨St.next hS.1 hbn, hS.2.trans (hbn.mono hS.2.size)⟩
                (try simp only [Act.put, List.setIfInBounds_toArray, List.set_cons_zero, List.set_cons_succ])
                refine h_take (v := ?_) 11 (some 93) rfl rfl (by kernel_rfl) (by kernel_rfl) (by kernel_rfl) (fun _ _ _ h => h) (by rfl) hS (fun wS hSw => ?_) #[true, true, true, true, true, true, true, true, true, true, true, true, false] rfl ?_; rotate_left
                · clear hSw; go_simp; first | done | with_reducible rfl
                (try simp only [Act.put, List.setIfInBounds_toArray, List.set_cons_zero, List.set_cons_succ])
                refine h_take (v := ?_) 12 (some 94) rfl rfl (by kernel_rfl) (by kernel_rfl) (by kernel_rfl) (fun _ _ _ h => h) (by rfl) hS (fun wS hSw => ?_) #[true, true, true, true, true, true, true, true, true, true, true, true, true] rfl ?_; rotate_left
                · clear hSw; go_simp; first | done | with_reducible rfl
                (try simp only [Act.put, List.setIfInBounds_toArray, List.set_cons_zero, List.set_cons_succ])
                refine wpAnyH_done (by kernel_rfl) ?_ _
                have st := hS.1
                have hown := hown.stay hS.2
                clear hS
                go_wp2
                go_roundg (F.code.length - (i + 1))
                case measure => omega
                case rel => exact ⟨i + 1, q + 1, by omega, rfl, by go_num, by go_num, Lib.hid (by rw [HN.out, List.length_append, HQ.out]; rfl), hown, st⟩
          · by_cases hj : (jk != -1) = true
            · have hjd : decide (jk ≤ (i : Int)) = false := by
                have := hja (by simpa using hj)
                simpa using this
              clear hja
              cases hb : F.branches rs i
              · rw [hb] at hbr
                have Hbr := Lib.hid hbr
                have HN := Lib.hid (mkTo_no hb)
                clear hbr hb
                go_wp2_with (first | ((with_reducible refine at_load 30 rfl ?_); refine ld30 _ rfl _ rfl x F (St.bx (by assumption)) rfl ?_) | (go_at_call 33; refine (Hbr.out _ (St.fn (by assumption) hF.fn) (St.row (by assumption) hR)).mono ?_; rintro e wb ⟨rfl, hbn⟩; have hr := Bk.stay hr hbn; have hown3 := Own.stay hown3 hbn; have hown := OwnR.stay hown hbn; have st := St.next (by assumption) hbn; have h14 := st.c14; clear hbn; have r0 := (hr.cell 0).trans rfl; have r1 := (hr.cell 1).trans rfl; have r2 := (hr.cell 2).trans rfl; have hrl := hr.lt))
                go_roundg (F.code.length - (i + 1))
                case measure => omega
                case rel => exact ⟨i + 1, q, by omega, rfl, by go_num, rfl, Lib.hid (by rw [HN.out]; exact HQ.out), hown, st⟩
              · have hat := mkTo_at hlt hb
                rw [← HQ.out, ← HE.out, List.getElem?_map] at hat
                have hql : q < es.length := by
                  rcases Nat.lt_or_ge q es.length with h | h
                  · exact h
                  · rw [List.getElem?_eq_none h] at hat; cases hat
                rw [hb] at hbr
                have Hbr := Lib.hid hbr
                have HN := Lib.hid (mkTo_yes hb)
                have Hat := Lib.hid hat
                have hqd : decide (es.length ≤ q) = false := decide_eq_false (by omega)
                have hqe : decide ((es.length : Int) ≤ (q : Int)) = false := decide_eq_false (by omega)
                clear hbr hb hat
                go_upto_region 14 with (first | ((with_reducible refine at_load 30 rfl ?_); refine ld30 _ rfl _ rfl x F (St.bx (by assumption)) rfl ?_) | (go_at_call 33; refine (Hbr.out _ (St.fn (by assumption) hF.fn) (St.row (by assumption) hR)).mono ?_; rintro e wb ⟨rfl, hbn⟩; have hr := Bk.stay hr hbn; have hown3 := Own.stay hown3 hbn; have hown := OwnR.stay hown hbn; have st := St.next (by assumption) hbn; have h14 := st.c14; clear hbn; have r0 := (hr.cell 0).trans rfl; have r1 := (hr.cell 1).trans rfl; have r2 := (hr.cell 2).trans rfl; have hrl := hr.lt))
                obtain ⟨g1, ⟨r1', B1, d1⟩, hA1, he1, hg1, hr1, p0, p1, p2⟩ := hown.at_ hql
                have hre : r1' = ⟨i, jk, mp⟩ := by
                  have h1 := Hat.out
                  rw [he1] at h1
                  exact (Option.some.inj h1).trans Hmk.out
                subst hre
                have hix := ix28 hA1 hql c
                simp only [Nat.zero_add] at hix p0 p1 p2
                clear hA1 he1
                have hS : St w wb.drew w.heap.size x F ∧ Below wb.heap.size wb wb.drew := ⟨st.drew, (Below.refl _ _).drew⟩
                refine h_begin (S := fun w' => St w w' w.heap.size x F ∧ Below wb.heap.size wb w') 13 #[false, false, false, false, false, false, false, false, false, false, false, false, false] rfl rfl ?_
                refine h_take (v := ?_) 0 (some 82) rfl rfl (by kernel_rfl) (by kernel_rfl) (by kernel_rfl) (fun _ _ _ h => h) (by rfl) hS (fun wS hSw => ?_) #[true, false, false, false, false, false, false, false, false, false, false, false, false] rfl ?_; rotate_left
                · clear hSw; go_simp; first | done | with_reducible rfl
                (try simp only [Act.put, List.setIfInBounds_toArray, List.set_cons_zero, List.set_cons_succ])
                refine h_take (v := ?_) 1 (some 83) rfl rfl (by kernel_rfl) (by kernel_rfl) (by kernel_rfl) (fun _ _ _ h => h) (by rfl) hS (fun wS hSw => ?_) #[true, true, false, false, false, false, false, false, false, false, false, false, false] rfl ?_; rotate_left
                · clear hSw; go_simp; first | done | with_reducible rfl
                (try simp only [Act.put, List.setIfInBounds_toArray, List.set_cons_zero, List.set_cons_succ])
                refine h_take (v := ?_) 2 (some 84) rfl rfl (by kernel_rfl) (by kernel_rfl) (by kernel_rfl) (fun _ _ _ h => h) (by rfl) hS (fun wS hSw => ?_) #[true, true, true, false, false, false, false, false, false, false, false, false, false] rfl ?_; rotate_left
                · clear hSw; go_simp; first | done | with_reducible rfl
                (try simp only [Act.put, List.setIfInBounds_toArray, List.set_cons_zero, List.set_cons_succ])
                refine h_take (v := ?_) 3 (some 85) rfl rfl (by kernel_rfl) (by kernel_rfl) (by kernel_rfl) (fun _ _ _ h => h) (by rfl) hS (fun wS hSw => ?_) #[true, true, true, true, false, false, false, false, false, false, false, false, false] rfl ?_; rotate_left
                · clear hSw; go_simp; first | done | with_reducible rfl
                (try simp only [Act.put, List.setIfInBounds_toArray, List.set_cons_zero, List.set_cons_succ])
                refine h_take (v := ?_) 4 (some 86) rfl rfl (by kernel_rfl) (by kernel_rfl) (by kernel_rfl) (fun _ _ _ h => h) (by rfl) hS (fun wS hSw => ?_) #[true, true, true, true, true, false, false, false, false, false, false, false, false] rfl ?_; rotate_left
                · clear hSw; go_simp; first | done | with_reducible rfl
                (try simp only [Act.put, List.setIfInBounds_toArray, List.set_cons_zero, List.set_cons_succ])
                refine h_take (v := ?_) 5 (some 87) rfl rfl (by kernel_rfl) (by kernel_rfl) (by kernel_rfl) (fun _ _ _ h => h) (by rfl) hS (fun wS hSw => ?_) #[true, true, true, true, true, true, false, false, false, false, false, false, false] rfl ?_; rotate_left
                · clear hSw; go_simp; first | done | with_reducible rfl
                (try simp only [Act.put, List.setIfInBounds_toArray, List.set_cons_zero, List.set_cons_succ])
                refine h_take (v := ?_) 6 (some 88) rfl rfl (by kernel_rfl) (by kernel_rfl) (by kernel_rfl) (fun _ _ _ h => h) (by rfl) hS (fun wS hSw => ?_) #[true, true, true, true, true, true, true, false, false, false, false, false, false] rfl ?_; rotate_left
                · clear hSw; go_simp; first | done | with_reducible rfl
                (try simp only [Act.put, List.setIfInBounds_toArray, List.set_cons_zero, List.set_cons_succ])
                refine h_take (v := ?_) 7 (some 89) rfl rfl (by kernel_rfl) (by kernel_rfl) (by kernel_rfl) (fun _ _ _ h => h) (by rfl) hS (fun wS hSw => ?_) #[true, true, true, true, true, true, true, true, false, false, false, false, false] rfl ?_; rotate_left
                · have hc := cells_of hSw.2; go_simp; first | done | with_reducible rfl
                (try simp only [Act.put, List.setIfInBounds_toArray, List.set_cons_zero, List.set_cons_succ])
                refine h_take (v := ?_) 8 (some 90) rfl rfl (by kernel_rfl) (by kernel_rfl) (by kernel_rfl) (fun _ _ _ h => h) (by rfl) hS (fun wS hSw => ?_) #[true, true, true, true, true, true, true, true, true, false, false, false, false] rfl ?_; rotate_left
                · have hc := cells_of hSw.2; go_simp; first | done | with_reducible rfl
                (try simp only [Act.put, List.setIfInBounds_toArray, List.set_cons_zero, List.set_cons_succ])
                refine h_take (v := ?_) 9 (some 91) rfl rfl (by kernel_rfl) (by kernel_rfl) (by kernel_rfl) (fun _ _ _ h => h) (by rfl) hS (fun wS hSw => ?_) #[true, true, true, true, true, true, true, true, true, true, false, false, false] rfl ?_; rotate_left
                · refine run_ld44 _ (.tmp 8) ?_ ?_ (hr.below hSw.2 hrl) rfl <;> rfl
                (try simp only [Act.put, List.setIfInBounds_toArray, List.set_cons_zero, List.set_cons_succ])
                refine h_call 10 (some 92) (by kernel_rfl) rfl rfl (by rfl) #[true, true, true, true, true, true, true, true, true, true, true, false, false] rfl (by go_simp; exact ⟨rfl, rfl⟩) ?_
                refine (same44_eq ⟨i, jk, mp⟩ B1 A3 d1 c3 _ (hr1.stay hS.2) ((hown3.row.lower (Nat.zero_le _)).stay hS.2) (by show mp.length ≤ 100000; omega)).mono ?_
                rintro e wn ⟨rfl, hbn⟩
                refine ⟨_, rfl, ?_, ?_⟩
                · exact ⟨St.next hS.1 hbn, hS.2.trans (hbn.mono hS.2.size)⟩
                have hS : _ ∧ _ := ⟨St.next hS.1 hbn, hS.2.trans (hbn.mono hS.2.size)⟩
                (try simp only [Act.put, List.setIfInBounds_toArray, List.set_cons_zero, List.set_cons_succ])
                refine h_take (v := ?_) 11 (some 93) rfl rfl (by kernel_rfl) (by kernel_rfl) (by kernel_rfl) (fun _ _ _ h => h) (by rfl) hS (fun wS hSw => ?_) #[true, true, true, true, true, true, true, true, true, true, true, true, false] rfl ?_; rotate_left
                · clear hSw; go_simp; first | done | with_reducible rfl
                (try simp only [Act.put, List.setIfInBounds_toArray, List.set_cons_zero, List.set_cons_succ])
                refine h_take (v := ?_) 12 (some 94) rfl rfl (by kernel_rfl) (by kernel_rfl) (by kernel_rfl) (fun _ _ _ h => h) (by rfl) hS (fun wS hSw => ?_) #[true, true, true, true, true, true, true, true, true, true, true, true, true] rfl ?_; rotate_left
                · clear hSw; go_simp; first | done | with_reducible rfl
                (try simp only [Act.put, List.setIfInBounds_toArray, List.set_cons_zero, List.set_cons_succ])
                refine wpAnyH_done (by kernel_rfl) ?_ _
                have st := hS.1
                have hown := hown.stay hS.2
                clear hS
                go_wp2
                go_roundg (F.code.length - (i + 1))
                case measure => omega
                case rel => exact ⟨i + 1, q + 1, by omega, rfl, by go_num, by go_num, Lib.hid (by rw [HN.out, List.length_append, HQ.out]; rfl), hown, st⟩
            · have hj : (jk != -1) = false := by simpa using hj
              clear hja
              cases hb : F.branches rs i
              · rw [hb] at hbr
                have Hbr := Lib.hid hbr
                have HN := Lib.hid (mkTo_no hb)
                clear hbr hb
                go_wp2_with (first | ((with_reducible refine at_load 30 rfl ?_); refine ld30 _ rfl _ rfl x F (St.bx (by assumption)) rfl ?_) | (go_at_call 33; refine (Hbr.out _ (St.fn (by assumption) hF.fn) (St.row (by assumption) hR)).mono ?_; rintro e wb ⟨rfl, hbn⟩; have hr := Bk.stay hr hbn; have hown3 := Own.stay hown3 hbn; have hown := OwnR.stay hown hbn; have st := St.next (by assumption) hbn; have h14 := st.c14; clear hbn; have r0 := (hr.cell 0).trans rfl; have r1 := (hr.cell 1).trans rfl; have r2 := (hr.cell 2).trans rfl; have hrl := hr.lt))
                go_roundg (F.code.length - (i + 1))
                case measure => omega
                case rel => exact ⟨i + 1, q, by omega, rfl, by go_num, rfl, Lib.hid (by rw [HN.out]; exact HQ.out), hown, st⟩
              · have hat := mkTo_at hlt hb
                rw [← HQ.out, ← HE.out, List.getElem?_map] at hat
                have hql : q < es.length := by
                  rcases Nat.lt_or_ge q es.length with h | h
                  · exact h
                  · rw [List.getElem?_eq_none h] at hat; cases hat
                rw [hb] at hbr
                have Hbr := Lib.hid hbr
                have HN := Lib.hid (mkTo_yes hb)
                have Hat := Lib.hid hat
                have hqd : decide (es.length ≤ q) = false := decide_eq_false (by omega)
                have hqe : decide ((es.length : Int) ≤ (q : Int)) = false := decide_eq_false (by omega)
                clear hbr hb hat
                go_upto_region 14 with (first | ((with_reducible refine at_load 30 rfl ?_); refine ld30 _ rfl _ rfl x F (St.bx (by assumption)) rfl ?_) | (go_at_call 33; refine (Hbr.out _ (St.fn (by assumption) hF.fn) (St.row (by assumption) hR)).mono ?_; rintro e wb ⟨rfl, hbn⟩; have hr := Bk.stay hr hbn; have hown3 := Own.stay hown3 hbn; have hown := OwnR.stay hown hbn; have st := St.next (by assumption) hbn; have h14 := st.c14; clear hbn; have r0 := (hr.cell 0).trans rfl; have r1 := (hr.cell 1).trans rfl; have r2 := (hr.cell 2).trans rfl; have hrl := hr.lt))
                obtain ⟨g1, ⟨r1', B1, d1⟩, hA1, he1, hg1, hr1, p0, p1, p2⟩ := hown.at_ hql
                have hre : r1' = ⟨i, jk, mp⟩ := by
                  have h1 := Hat.out
                  rw [he1] at h1
                  exact (Option.some.inj h1).trans Hmk.out
                subst hre
                have hix := ix28 hA1 hql c
                simp only [Nat.zero_add] at hix p0 p1 p2
                clear hA1 he1
                have hS : St w wb.drew w.heap.size x F ∧ Below wb.heap.size wb wb.drew := ⟨st.drew, (Below.refl _ _).drew⟩
                refine h_begin (S := fun w' => St w w' w.heap.size x F ∧ Below wb.heap.size wb w') 13 #[false, false, false, false, false, false, false, false, false, false, false, false, false] rfl rfl ?_
                refine h_take (v := ?_) 0 (some 82) rfl rfl (by kernel_rfl) (by kernel_rfl) (by kernel_rfl) (fun _ _ _ h => h) (by rfl) hS (fun wS hSw => ?_) #[true, false, false, false, false, false, false, false, false, false, false, false, false] rfl ?_; rotate_left
                · clear hSw; go_simp; first | done | with_reducible rfl
                (try simp only [Act.put, List.setIfInBounds_toArray, List.set_cons_zero, List.set_cons_succ])
                refine h_take (v := ?_) 1 (some 83) rfl rfl (by kernel_rfl) (by kernel_rfl) (by kernel_rfl) (fun _ _ _ h => h) (by rfl) hS (fun wS hSw => ?_) #[true, true, false, false, false, false, false, false, false, false, false, false, false] rfl ?_; rotate_left
                · clear hSw; go_simp; first | done | with_reducible rfl
                (try simp only [Act.put, List.setIfInBounds_toArray, List.set_cons_zero, List.set_cons_succ])
                refine h_take (v := ?_) 2 (some 84) rfl rfl (by kernel_rfl) (by kernel_rfl) (by kernel_rfl) (fun _ _ _ h => h) (by rfl) hS (fun wS hSw => ?_) #[true, true, true, false, false, false, false, false, false, false, false, false, false] rfl ?_; rotate_left
                · clear hSw; go_simp; first | done | with_reducible rfl
                (try simp only [Act.put, List.setIfInBounds_toArray, List.set_cons_zero, List.set_cons_succ])
                refine h_take (v := ?_) 3 (some 85) rfl rfl (by kernel_rfl) (by kernel_rfl) (by kernel_rfl) (fun _ _ _ h => h) (by rfl) hS (fun wS hSw => ?_) #[true, true, true, true, false, false, false, false, false, false, false, false, false] rfl ?_; rotate_left
                · clear hSw; go_simp; first | done | with_reducible rfl
                (try simp only [Act.put, List.setIfInBounds_toArray, List.set_cons_zero, List.set_cons_succ])
                refine h_take (v := ?_) 4 (some 86) rfl rfl (by kernel_rfl) (by kernel_rfl) (by kernel_rfl) (fun _ _ _ h => h) (by rfl) hS (fun wS hSw => ?_) #[true, true, true, true, true, false, false, false, false, false, false, false, false] rfl ?_; rotate_left
                · clear hSw; go_simp; first | done | with_reducible rfl
                (try simp only [Act.put, List.setIfInBounds_toArray, List.set_cons_zero, List.set_cons_succ])
                refine h_take (v := ?_) 5 (some 87) rfl rfl (by kernel_rfl) (by kernel_rfl) (by kernel_rfl) (fun _ _ _ h => h) (by rfl) hS (fun wS hSw => ?_) #[true, true, true, true, true, true, false, false, false, false, false, false, false] rfl ?_; rotate_left
                · clear hSw; go_simp; first | done | with_reducible rfl
                (try simp only [Act.put, List.setIfInBounds_toArray, List.set_cons_zero, List.set_cons_succ])
                refine h_take (v := ?_) 6 (some 88) rfl rfl (by kernel_rfl) (by kernel_rfl) (by kernel_rfl) (fun _ _ _ h => h) (by rfl) hS (fun wS hSw => ?_) #[true, true, true, true, true, true, true, false, false, false, false, false, false] rfl ?_; rotate_left
                · clear hSw; go_simp; first | done | with_reducible rfl
                (try simp only [Act.put, List.setIfInBounds_toArray, List.set_cons_zero, List.set_cons_succ])
                refine h_take (v := ?_) 7 (some 89) rfl rfl (by kernel_rfl) (by kernel_rfl) (by kernel_rfl) (fun _ _ _ h => h) (by rfl) hS (fun wS hSw => ?_) #[true, true, true, true, true, true, true, true, false, false, false, false, false] rfl ?_; rotate_left
                · have hc := cells_of hSw.2; go_simp; first | done | with_reducible rfl
                (try simp only [Act.put, List.setIfInBounds_toArray, List.set_cons_zero, List.set_cons_succ])
                refine h_take (v := ?_) 8 (some 90) rfl rfl (by kernel_rfl) (by kernel_rfl) (by kernel_rfl) (fun _ _ _ h => h) (by rfl) hS (fun wS hSw => ?_) #[true, true, true, true, true, true, true, true, true, false, false, false, false] rfl ?_; rotate_left
                · have hc := cells_of hSw.2; go_simp; first | done | with_reducible rfl
                (try simp only [Act.put, List.setIfInBounds_toArray, List.set_cons_zero, List.set_cons_succ])
                refine h_take (v := ?_) 9 (some 91) rfl rfl (by kernel_rfl) (by kernel_rfl) (by kernel_rfl) (fun _ _ _ h => h) (by rfl) hS (fun wS hSw => ?_) #[true, true, true, true, true, true, true, true, true, true, false, false, false] rfl ?_; rotate_left
                · refine run_ld44 _ (.tmp 8) ?_ ?_ (hr.below hSw.2 hrl) rfl <;> rfl
                (try simp only [Act.put, List.setIfInBounds_toArray, List.set_cons_zero, List.set_cons_succ])
                refine h_call 10 (some 92) (by kernel_rfl) rfl rfl (by rfl) #[true, true, true, true, true, true, true, true, true, true, true, false, false] rfl (by go_simp; exact ⟨rfl, rfl⟩) ?_
                refine (same44_eq ⟨i, jk, mp⟩ B1 A3 d1 c3 _ (hr1.stay hS.2) ((hown3.row.lower (Nat.zero_le _)).stay hS.2) (by show mp.length ≤ 100000; omega)).mono ?_
                rintro e wn ⟨rfl, hbn⟩
                refine ⟨_, rfl, ?_, ?_⟩
                · exact ⟨St.next hS.1 hbn, hS.2.trans (hbn.mono hS.2.size)⟩
                have hS : _ ∧ _ := ⟨St.next hS.1 hbn, hS.2.trans (hbn.mono hS.2.size)⟩
                (try simp only [Act.put, List.setIfInBounds_toArray, List.set_cons_zero, List.set_cons_succ])
                refine h_take (v := ?_) 11 (some 93) rfl rfl (by kernel_rfl) (by kernel_rfl) (by kernel_rfl) (fun _ _ _ h => h) (by rfl) hS (fun wS hSw => ?_) #[true, true, true, true, true, true, true, true, true, true, true, true, false] rfl ?_; rotate_left
                · clear hSw; go_simp; first | done | with_reducible rfl
                (try simp only [Act.put, List.setIfInBounds_toArray, List.set_cons_zero, List.set_cons_succ])
                refine h_take (v := ?_) 12 (some 94) rfl rfl (by kernel_rfl) (by kernel_rfl) (by kernel_rfl) (fun _ _ _ h => h) (by rfl) hS (fun wS hSw => ?_) #[true, true, true, true, true, true, true, true, true, true, true, true, true] rfl ?_; rotate_left
                · clear hSw; go_simp; first | done | with_reducible rfl
                (try simp only [Act.put, List.setIfInBounds_toArray, List.set_cons_zero, List.set_cons_succ])
                refine wpAnyH_done (by kernel_rfl) ?_ _
                have st := hS.1
                have hown := hown.stay hS.2
                clear hS
                go_wp2
                go_roundg (F.code.length - (i + 1))
                case measure => omega
                case rel => exact ⟨i + 1, q + 1, by omega, rfl, by go_num, by go_num, Lib.hid (by rw [HN.out, List.length_append, HQ.out]; rfl), hown, st⟩
        · have hql : q = es.length := by
            have h1 := congrArg List.length HE.out
            rw [List.length_map] at h1
            have h2 := HQ.out
            rw [show i = F.code.length by omega] at h2
            omega
          subst hql
          go_wp2
          go_ret
          exact ⟨ret_bool (by simp), st.hb⟩
  · have hfew : (decide (F.code.length ≤ 40) && decide (F.hs.length ≤ 40) && decide (rs.length ≤ 1000)) = false := by simpa using hfew
    have Hfew := Lib.hid hfew
    clear hfew
    go_enter Try.func12, Try.ntmps12
    go_wp2_with (first | go_skip | ((with_reducible refine at_box 30 rfl ?_); refine bx30 _ rfl x F rfl rfl ?_; intro w1 hbx hb1 hs1; have st := St.new hbx hb1; have ho := st.old; have h14 := st.c14; have h15 := st.c15; clear hbx hb1 hs1) | ((with_reducible refine at_load 30 rfl ?_); refine ld30 _ rfl _ rfl x F (St.bx (by assumption)) rfl ?_) | (go_at_call 20; refine (awake16 _).mono ?_; rintro e wa ⟨rfl, hbn⟩; have st := St.next (by assumption) hbn; have h14 := st.c14; clear hbn) | (go_at_call 21; refine (few16 x F R rs.length rc _ false Hfew.out.symm).mono ?_; rintro e wf ⟨rfl, hbn⟩; have st := St.next (by assumption) hbn; have h14 := st.c14; clear hbn))
    go_ret
    exact ⟨rfl, st.hb⟩
end Go.Proofs.Ytnnhlnefhndpdaa
