/- The walk of regions' Make. -/
import Derived.Test.YtnnhlnefhndpdaaRegs2
import Derived.Test.YtnnhlnefhndpdaaWalkO
namespace Go.Proofs.Ytnnhlnefhndpdaa
open Go.RowKit
set_option linter.unusedSimpArgs false
set_option linter.unusedVariables false

set_option maxHeartbeats 4000000 in
set_option maxRecDepth 100000 in
theorem make_any (x : FX) (F : Fn) (R : Option Addr) (rs : List Bool) (rc : Nat) (w : World) (hF : FnX w x F) (hR : Row w 0 R (boolsV rs)) (hm : F.hs.length ≤ 1000) (hn : F.code.length ≤ 1000) :
    Calls Try.prog 31 #[x.val F, .slice R rs.length rc] w fun e w' => ∃ A c es, e = .returned (.slice A es.length c) ∧ Hid (es.map RE.r = makeF F rs) ∧ OwnR w' w.heap.size A c es ∧ Below w.heap.size w w' := by
  have hah := fun (W : World) (h : FnX W x F) => ahead_any x F R rs.length rc W h hm hn
  cases hA : F.ahead
  · rw [hA] at hah
    have Hah := Lib.hid hah
    have HM := Lib.hid (makeF_no (rs := rs) hA)
    clear hah hA
    go_enter Try.func31, Try.ntmps31
    go_wp2_with (first | go_skip | ((with_reducible refine at_box 30 rfl ?_); refine bx30 _ rfl x F rfl rfl ?_; intro w1 hbx hb1 hs1; have st := St.new hbx hb1; have ho := st.old; have h14 := st.c14; have h15 := st.c15; clear hbx hb1 hs1) | ((with_reducible refine at_load 30 rfl ?_); refine ld30 _ rfl _ rfl x F (St.bx (by assumption)) rfl ?_) | (go_at_call 44; refine (Hah.out _ (St.fnx (by assumption) hF)).mono ?_; rintro e wn ⟨rfl, hbn⟩; have st := St.next (by assumption) hbn; have h14 := st.c14; clear hbn))
    go_ret
    exact ⟨none, 0, [], rfl, Lib.hid HM.out.symm, OwnR.nil _ _, st.hb⟩
  · rw [hA] at hah
    have Hah := Lib.hid hah
    have HM := Lib.hid (makeF_yes (rs := rs) hA)
    have HA := Lib.hid hA
    clear hah hA
    go_enter Try.func31, Try.ntmps31
    go_wp2_with (first | go_skip | ((with_reducible refine at_box 30 rfl ?_); refine bx30 _ rfl x F rfl rfl ?_; intro w1 hbx hb1 hs1; have st := St.new hbx hb1; have ho := st.old; have h14 := st.c14; have h15 := st.c15; clear hbx hb1 hs1) | ((with_reducible refine at_load 30 rfl ?_); refine ld30 _ rfl _ rfl x F (St.bx (by assumption)) rfl ?_) | (go_at_call 44; refine (Hah.out _ (St.fnx (by assumption) hF)).mono ?_; rintro e wn ⟨rfl, hbn⟩; have st := St.next (by assumption) hbn; have h14 := st.c14; clear hbn) | (go_at_call 53; refine (joins_any x F R rs rc _ (St.fnx (by assumption) hF) (St.row (by assumption) hR) hm hn HA.out).mono ?_; rintro e wj ⟨B, l, rfl, HL, hs, hB, hbn⟩; have st := St.next (by assumption) hbn; have h14 := st.c14; clear hbn))
    have hxj := st.bx.lt
    have hBj := hs.lt
    go_loopg [6, 18] F.code.length (fun g t s wr => ∃ (k : Nat) (A : Option Addr) (c : Nat) (es : List RE), k ≤ F.code.length ∧ g = F.code.length - k ∧ s = .int .i64 k ∧ t = .slice A es.length c ∧ Hid (es.map RE.r = mkTo F rs k) ∧ OwnR wr wj.heap.size A c es ∧ IntsBk wr B l ∧ wj.heap.size ≤ wr.heap.size ∧ St w wr w.heap.size x F)
    case atStart => exact ⟨0, none, 0, [], Nat.zero_le _, rfl, rfl, rfl, rfl, OwnR.nil _ _, hs, Nat.le_refl _, st⟩
    case round =>
      clear st hs h14
      obtain ⟨k, A, c, es, hk, rfl, rfl, rfl, HE, hown, hs, hzw, st⟩ := hrel
      have ho := st.old
      have h14 := st.c14
      have hxl := st.bx.lt
      have hel : es.length ≤ k := by
        have := congrArg List.length HE.out
        rw [List.length_map] at this
        have := mkTo_length F rs k
        omega
      by_cases hlt : k < F.code.length
      · have hbr := fun W h1 h2 => branches_any x F R rs rc k W h1 h2
        have hw3 := Fn.ways_length F rs k
        cases hb : F.branches rs k
        · rw [hb] at hbr
          have Hbr := Lib.hid hbr
          have HN := Lib.hid (mkTo_no hb)
          clear hbr hb
          go_wp2_with (first | ((with_reducible refine at_load 30 rfl ?_); refine ld30 _ rfl _ rfl x F (St.bx (by assumption)) rfl ?_) | (go_at_call 33; refine (Hbr.out _ (St.fn (by assumption) hF.fn) (St.row (by assumption) hR)).mono ?_; rintro e wb ⟨rfl, hbn⟩; have hzb := hbn.size; have hs := Bk.stay hs hbn; have hown := OwnR.stay hown hbn; have st := St.next (by assumption) hbn; have h14 := st.c14; clear hbn))
          go_roundg (F.code.length - (k + 1))
          case measure => omega
          case rel => exact ⟨k + 1, A, c, es, by omega, rfl, by go_num, rfl, Lib.hid (by rw [HE.out, HN.out]), hown, hs, by omega, st⟩
        · rw [hb] at hbr
          have Hbr := Lib.hid hbr
          have HN := Lib.hid (mkTo_yes hb)
          clear hbr hb
          go_upto_region 9 with (first | ((with_reducible refine at_load 30 rfl ?_); refine ld30 _ rfl _ rfl x F (St.bx (by assumption)) rfl ?_) | (go_at_call 33; refine (Hbr.out _ (St.fn (by assumption) hF.fn) (St.row (by assumption) hR)).mono ?_; rintro e wb ⟨rfl, hbn⟩; have hzb := hbn.size; have hs := Bk.stay hs hbn; have hown := OwnR.stay hown hbn; have st := St.next (by assumption) hbn; have h14 := st.c14; clear hbn))
          have hzw : wj.heap.size ≤ wb.heap.size := by omega
          have hc0 := ints_at hs (show k < l.length by rw [HL.out.1]; exact hlt)
          rw [HL.out.2 k hlt] at hc0
          have hix := ix32 (A := some ⟨B, 0, none⟩) rfl hlt F.code.length
          simp only [Nat.zero_add] at hix
          have hown := hown.stay (World.drew_below wb)
          have hS : St w wb.drew w.heap.size x F ∧ Below wj.heap.size wb wb.drew := ⟨st.drew, (Below.refl _ _).drew⟩
          refine h_begin (S := (fun w' => St w w' w.heap.size x F ∧ Below wj.heap.size wb w')) 21 #[false, false, false, false, false, false, false, false, false, false, false, false, false, false, false, false, false, false, false, false, false] rfl rfl ?_
          refine h_take (v := ?_) 0 (some 25) rfl rfl (by kernel_rfl) (by kernel_rfl) (by kernel_rfl) (fun _ _ _ h => h) (by rfl) hS (fun wS hSw => ?_) #[true, false, false, false, false, false, false, false, false, false, false, false, false, false, false, false, false, false, false, false, false] rfl ?_; rotate_left
          · clear hSw; go_simp; first | done | with_reducible rfl
          (try simp only [Act.put, List.setIfInBounds_toArray, List.set_cons_zero, List.set_cons_succ])
          refine h_take (v := ?_) 1 (some 26) rfl rfl (by kernel_rfl) (by kernel_rfl) (by kernel_rfl) (fun _ _ _ h => h) (by rfl) hS (fun wS hSw => ?_) #[true, true, false, false, false, false, false, false, false, false, false, false, false, false, false, false, false, false, false, false, false] rfl ?_; rotate_left
          · clear hSw; go_simp; first | done | with_reducible rfl
          (try simp only [Act.put, List.setIfInBounds_toArray, List.set_cons_zero, List.set_cons_succ])
          refine h_take (v := ?_) 2 (some 27) rfl rfl (by kernel_rfl) (by kernel_rfl) (by kernel_rfl) (fun _ _ _ h => h) (by rfl) hS (fun wS hSw => ?_) #[true, true, true, false, false, false, false, false, false, false, false, false, false, false, false, false, false, false, false, false, false] rfl ?_; rotate_left
          · clear hSw; go_simp; first | done | with_reducible rfl
          (try simp only [Act.put, List.setIfInBounds_toArray, List.set_cons_zero, List.set_cons_succ])
          refine h_take (v := ?_) 3 (some 28) rfl rfl (by kernel_rfl) (by kernel_rfl) (by kernel_rfl) (fun _ _ _ h => h) (by rfl) hS (fun wS hSw => ?_) #[true, true, true, true, false, false, false, false, false, false, false, false, false, false, false, false, false, false, false, false, false] rfl ?_; rotate_left
          · clear hSw; go_simp; first | done | with_reducible rfl
          (try simp only [Act.put, List.setIfInBounds_toArray, List.set_cons_zero, List.set_cons_succ])
          refine h_take (v := ?_) 4 (some 29) rfl rfl (by kernel_rfl) (by kernel_rfl) (by kernel_rfl) (fun _ _ _ h => h) (by rfl) hS (fun wS hSw => ?_) #[true, true, true, true, true, false, false, false, false, false, false, false, false, false, false, false, false, false, false, false, false] rfl ?_; rotate_left
          · have hc := cells_of hSw.2; go_simp; first | done | with_reducible rfl
          (try simp only [Act.put, List.setIfInBounds_toArray, List.set_cons_zero, List.set_cons_succ])
          refine h_take (v := ?_) 5 (some 30) rfl rfl (by kernel_rfl) (by kernel_rfl) (by kernel_rfl) (fun _ _ _ h => h) (by rfl) hS (fun wS hSw => ?_) #[true, true, true, true, true, true, false, false, false, false, false, false, false, false, false, false, false, false, false, false, false] rfl ?_; rotate_left
          · have hc := cells_of hSw.2; go_simp; first | done | with_reducible rfl
          (try simp only [Act.put, List.setIfInBounds_toArray, List.set_cons_zero, List.set_cons_succ])
          refine h_take (v := ?_) 6 (some 31) rfl rfl (by kernel_rfl) (by kernel_rfl) (by kernel_rfl) (fun _ _ _ h => h) (by rfl) hS (fun wS hSw => ?_) #[true, true, true, true, true, true, true, false, false, false, false, false, false, false, false, false, false, false, false, false, false] rfl ?_; rotate_left
          · refine run_ld30 _ (.tmp 2) ?_ ?_ hSw.1.bx <;> rfl
          (try simp only [Act.put, List.setIfInBounds_toArray, List.set_cons_zero, List.set_cons_succ])
          refine h_take (v := ?_) 7 (some 32) rfl rfl (by kernel_rfl) (by kernel_rfl) (by kernel_rfl) (fun _ _ _ h => h) (by rfl) hS (fun wS hSw => ?_) #[true, true, true, true, true, true, true, true, false, false, false, false, false, false, false, false, false, false, false, false, false] rfl ?_; rotate_left
          · clear hSw; go_simp; first | done | with_reducible rfl
          (try simp only [Act.put, List.setIfInBounds_toArray, List.set_cons_zero, List.set_cons_succ])
          refine h_take (v := ?_) 8 (some 33) rfl rfl (by kernel_rfl) (by kernel_rfl) (by kernel_rfl) (fun _ _ _ h => h) (by rfl) hS (fun wS hSw => ?_) #[true, true, true, true, true, true, true, true, true, false, false, false, false, false, false, false, false, false, false, false, false] rfl ?_; rotate_left
          · refine run_ld30 _ (.tmp 2) ?_ ?_ hSw.1.bx <;> rfl
          (try simp only [Act.put, List.setIfInBounds_toArray, List.set_cons_zero, List.set_cons_succ])
          refine h_take (v := ?_) 9 (some 34) rfl rfl (by kernel_rfl) (by kernel_rfl) (by kernel_rfl) (fun _ _ _ h => h) (by rfl) hS (fun wS hSw => ?_) #[true, true, true, true, true, true, true, true, true, true, false, false, false, false, false, false, false, false, false, false, false] rfl ?_; rotate_left
          · clear hSw; go_simp; first | done | with_reducible rfl
          (try simp only [Act.put, List.setIfInBounds_toArray, List.set_cons_zero, List.set_cons_succ])
          refine h_take (v := ?_) 10 (some 35) rfl rfl (by kernel_rfl) (by kernel_rfl) (by kernel_rfl) (fun _ _ _ h => h) (by rfl) hS (fun wS hSw => ?_) #[true, true, true, true, true, true, true, true, true, true, true, false, false, false, false, false, false, false, false, false, false] rfl ?_; rotate_left
          · clear hSw; go_simp; first | done | with_reducible rfl
          (try simp only [Act.put, List.setIfInBounds_toArray, List.set_cons_zero, List.set_cons_succ])
          refine h_take (v := ?_) 12 (some 37) rfl rfl (by kernel_rfl) (by kernel_rfl) (by kernel_rfl) (fun _ _ _ h => h) (by rfl) hS (fun wS hSw => ?_) #[true, true, true, true, true, true, true, true, true, true, true, false, true, false, false, false, false, false, false, false, false] rfl ?_; rotate_left
          · clear hSw; go_simp; first | done | with_reducible rfl
          (try simp only [Act.put, List.setIfInBounds_toArray, List.set_cons_zero, List.set_cons_succ])
          refine h_take (v := ?_) 13 (some 38) rfl rfl (by kernel_rfl) (by kernel_rfl) (by kernel_rfl) (fun _ _ _ h => h) (by rfl) hS (fun wS hSw => ?_) #[true, true, true, true, true, true, true, true, true, true, true, false, true, true, false, false, false, false, false, false, false] rfl ?_; rotate_left
          · clear hSw; go_simp; first | done | with_reducible rfl
          (try simp only [Act.put, List.setIfInBounds_toArray, List.set_cons_zero, List.set_cons_succ])
          refine h_take (v := ?_) 14 (some 39) rfl rfl (by kernel_rfl) (by kernel_rfl) (by kernel_rfl) (fun _ _ _ h => h) (by rfl) hS (fun wS hSw => ?_) #[true, true, true, true, true, true, true, true, true, true, true, false, true, true, true, false, false, false, false, false, false] rfl ?_; rotate_left
          · have hc := cells_of hSw.2; go_simp; first | done | with_reducible rfl
          (try simp only [Act.put, List.setIfInBounds_toArray, List.set_cons_zero, List.set_cons_succ])
          refine h_take (v := ?_) 15 (some 40) rfl rfl (by kernel_rfl) (by kernel_rfl) (by kernel_rfl) (fun _ _ _ h => h) (by rfl) hS (fun wS hSw => ?_) #[true, true, true, true, true, true, true, true, true, true, true, false, true, true, true, true, false, false, false, false, false] rfl ?_; rotate_left
          · have hc := cells_of hSw.2; go_simp; first | done | with_reducible rfl
          (try simp only [Act.put, List.setIfInBounds_toArray, List.set_cons_zero, List.set_cons_succ])
          refine h_call 11 (some 36) (by kernel_rfl) rfl rfl (by rfl) #[true, true, true, true, true, true, true, true, true, true, true, true, true, true, true, true, false, false, false, false, false] rfl (by go_simp; exact ⟨rfl, rfl⟩) ?_
          refine (ways_any x F R rs rc k _ (St.fn hS.1 hF.fn) (St.row hS.1 hR) hm hn).mono ?_
          rintro e wn ⟨A2, c2, rfl, hown2, hbn⟩
          refine ⟨_, rfl, ?_, ?_⟩
          · exact ⟨St.next hS.1 hbn, hS.2.trans (hbn.mono (Nat.le_trans hzw hS.2.size))⟩
          have hS : _ ∧ _ := ⟨St.next hS.1 hbn, hS.2.trans (hbn.mono (Nat.le_trans hzw hS.2.size))⟩
          have hown := hown.stay hbn
          have hzn := Nat.le_trans hzw hS.2.size
          (try simp only [Act.put, List.setIfInBounds_toArray, List.set_cons_zero, List.set_cons_succ])
          refine h_call 16 (some 41) (by kernel_rfl) rfl rfl (by rfl) #[true, true, true, true, true, true, true, true, true, true, true, true, true, true, true, true, true, false, false, false, false] rfl (by go_simp; exact ⟨rfl, rfl⟩) ?_
          refine (reach_any x F R A2 rs rc (F.ways rs k) c2 (jn F rs k) _ (St.fn hS.1 hF.fn) (St.row hS.1 hR) (hown2.row.lower (Nat.zero_le _)) hm hn (by omega)).mono ?_
          rintro e wn ⟨A3, c3, rfl, hown3, hbn⟩
          refine ⟨_, rfl, ?_, ?_⟩
          · exact ⟨St.next hS.1 hbn, hS.2.trans (hbn.mono (Nat.le_trans hzw hS.2.size))⟩
          have hS : _ ∧ _ := ⟨St.next hS.1 hbn, hS.2.trans (hbn.mono (Nat.le_trans hzw hS.2.size))⟩
          have he : PlOk wn wj.heap.size (A.map (·.block)) ⟨made F rs k, A3, c3⟩ := PlOk.of_own (r := made F rs k) hown3 hown (Nat.le_refl _) hzn
          have hown := hown.stay hbn
          have hzn := Nat.le_trans hzw hS.2.size
          have hSp := hS
          (try simp only [Act.put, List.setIfInBounds_toArray, List.set_cons_zero, List.set_cons_succ])
          refine h_take (v := ?_) 17 (some 42) rfl rfl (by kernel_rfl) (by kernel_rfl) (by kernel_rfl) (fun _ _ _ h => h) (by rfl) hS (fun wS hSw => ?_) #[true, true, true, true, true, true, true, true, true, true, true, true, true, true, true, true, true, true, false, false, false] rfl ?_; rotate_left
          · clear hSw; go_simp; first | done | with_reducible rfl
          (try simp only [Act.put, List.setIfInBounds_toArray, List.set_cons_zero, List.set_cons_succ])
          have hS : St w (wn.alloc (.cells (RE.row ⟨made F rs k, A3, c3⟩) 44)) w.heap.size x F ∧ Below wj.heap.size wb (wn.alloc (.cells (RE.row ⟨made F rs k, A3, c3⟩) 44)) := ⟨St.alloc hS.1 _, hS.2.alloc hzn _⟩
          refine h_last (v := .slice (some ⟨wn.heap.size, 0, none⟩) 1 1) (w1 := wn.alloc (.cells (RE.row ⟨made F rs k, A3, c3⟩) 44)) 18 (some 43) (by kernel_rfl) rfl rfl (by rfl) (by go_simp; first | done | rfl) hS #[true, true, true, true, true, true, true, true, true, true, true, true, true, true, true, true, true, true, true, false, false] rfl ?_
          (try simp only [Act.put, List.setIfInBounds_toArray, List.set_cons_zero, List.set_cons_succ])
          obtain ⟨A4, c4, w4, hrun4, hown4, hb4⟩ := run_appR 28 hown ⟨made F rs k, A3, c3⟩ he 1 (by omega) hzn
          have hS : St w w4 w.heap.size x F ∧ Below wj.heap.size wb w4 := ⟨St.low hSp.1 hb4 hxj, hSp.2.trans hb4⟩
          refine h_last (v := .slice A4 (es ++ [((⟨made F rs k, A3, c3⟩ : RE))]).length c4) (w1 := w4) 19 (some 44) (by kernel_rfl) rfl rfl (by rfl) (exec_app (.tmp 25) (.tmp 43) rfl rfl rfl hrun4) hS #[true, true, true, true, true, true, true, true, true, true, true, true, true, true, true, true, true, true, true, true, false] rfl ?_
          (try simp only [Act.put, List.setIfInBounds_toArray, List.set_cons_zero, List.set_cons_succ])
          refine h_take (v := ?_) 20 (some 6) rfl rfl (by kernel_rfl) (by kernel_rfl) (by kernel_rfl) (fun _ _ _ h => h) (by rfl) hS (fun wS hSw => ?_) #[true, true, true, true, true, true, true, true, true, true, true, true, true, true, true, true, true, true, true, true, true] rfl ?_; rotate_left
          · clear hSw; go_simp; first | done | with_reducible rfl
          (try simp only [Act.put, List.setIfInBounds_toArray, List.set_cons_zero, List.set_cons_succ])
          refine wpAnyH_done (by kernel_rfl) ?_ _
          have st := hS.1
          have hs := hs.below hS.2 hBj
          have hz4 := hS.2.size
          clear hS
          go_wp2
          go_roundg (F.code.length - (k + 1))
          case measure => omega
          case rel => exact ⟨k + 1, A4, c4, _, by omega, rfl, by go_num, by rw [List.length_append]; rfl, Lib.hid (by rw [List.map_append, HE.out, HN.out]; rfl), hown4, hs, by omega, st⟩
      · have hkn : k = F.code.length := by omega
        have HK := Lib.hid hkn
        clear hkn
        go_wp2
        go_ret
        refine ⟨A, c, es, rfl, Lib.hid (by rw [HE.out, HM.out, HK.out]), ⟨?_, fun e he => ?_⟩, st.hb⟩
        · refine ⟨hown.own.1, ?_⟩
          rcases hown.own.2 with hn | ⟨g, cap, cur, hv, hg, r⟩
          · exact .inl hn
          · exact .inr ⟨g, cap, cur, hv, by omega, r⟩
        · rcases hown.pl e he with h | ⟨B', off, h1, h2, h3⟩
          · exact .inl h
          · exact .inr ⟨B', off, h1, by omega, h3⟩
end Go.Proofs.Ytnnhlnefhndpdaa
