/- The walk of the reference's Holds. -/
import Derived.Test.YtnnhlnefhndpdaaWalkT
import Derived.Test.YtnnhlnefhndpdaaWalkK
import Derived.Test.YtnnhlnefhndpdaaWalkD
import Derived.Test.YtnnhlnefhndpdaaBox2
namespace Go.Proofs.Ytnnhlnefhndpdaa
open Go.RowKit
set_option linter.unusedSimpArgs false
set_option linter.unusedVariables false

theorem bool_casesU (b : Bool) : b = true ∨ b = false := by cases b <;> simp

theorem run_ld44 {a : Act} {w : World} (o : Oper) (x : Operand) (ho : o.op = .load 44 x) {B : Nat} {cs : Array Value} (hx : a.eval x = .pointer (some ⟨B, 0, none⟩)) (hB : Bk w B 44 cs) (hs : cs.size = 3) : (execOp a.eval o).run Try.prog w = .ok (.value (.agg cs)) w := by
  unfold execOp
  simp only [ho, hx, Instr.loadAt, Instr.sureAddr, Sem.run_bind, Sem.run_pure, Result.andThen_ok, run_loadVar_row w B 44 44 cs (0, 0) _ hB Try.underlying44 rfl (by rw [hs]; kernel_rfl)]

set_option maxHeartbeats 8000000 in
set_option maxRecDepth 100000 in
theorem rholds_any (x : FX) (F : Fn) (R A : Option Addr) (rs : List Bool) (rc : Nat) (a j : Int) (pl : List Int) (ac : Nat) (w : World) (hF : FnAt w x F) (hR : Row w 0 R (boolsV rs)) (hA : Row w 0 A (intsV pl))
    (hm : F.hs.length ≤ 1000) (hn : F.code.length ≤ 1000) (hl : pl.length ≤ 1000) :
    Calls Try.prog 23 #[x.val F, .slice R rs.length rc, .agg #[.int .i64 a, .int .i64 j, .slice A pl.length ac]] w fun e w' => e = .returned (.int .i64 (holdsF F rs a j pl)) ∧ Below w.heap.size w w' := by
  have hah := fun (W : World) (h : FnAt W x F) => rahead_any x F W h hm hn
  rcases bool_casesU F.ahead with ha | ha
  all_goals
    rw [ha] at hah
    have Hah := Lib.hid hah
    clear hah
  · by_cases h0 : a < 0
    · have hp : F.place a = false := by simp [Fn.place]; omega
      have H : Hid (holdsF F rs a j pl = _) := Lib.hid (by unfold holdsF; rw [ha, hp]; try rfl)
      go_enter Try.func23, Try.ntmps23
      go_wp2_with (first | go_skip | ((with_reducible refine at_box 30 rfl ?_); refine bx30 _ rfl x F rfl rfl ?_; intro w1 hbx hb1 hs1; have st := St.new hbx hb1; have ho := st.old; have h14 := st.c14; have h15 := st.c15; clear hbx hb1 hs1) | ((with_reducible refine at_box 44 rfl ?_); refine wp_box 44 _ rfl #[.int .i64 a, .int .i64 j, .slice A pl.length ac] rfl rfl ?_; intro w2 hbq hb2 hs2; have st := St.next (by assumption) hb2; have ho := st.old; have h14 := st.c14; have h15 := st.c15; clear hb2; have q0 := (hbq.cell 0).trans rfl; have q1 := (hbq.cell 1).trans rfl; have q2 := (hbq.cell 2).trans rfl; have hql := hbq.lt; have h14 := st.c14) | ((with_reducible refine at_load 30 rfl ?_); refine ld30 _ rfl _ rfl x F (St.bx (by assumption)) rfl ?_) | ((with_reducible refine at_load 44 rfl ?_); refine wp_loadbox 44 _ rfl _ rfl _ hbq _ Try.underlying44 rfl (by kernel_rfl) rfl ?_) | (go_at_call 24; refine (Hah.out _ (St.fn (by assumption) hF)).mono ?_; rintro e wn ⟨rfl, hbn⟩; have st := St.next (by assumption) hbn; have hbq := Bk.stay hbq hbn; have q0 := (hbq.cell 0).trans rfl; have q1 := (hbq.cell 1).trans rfl; have q2 := (hbq.cell 2).trans rfl; have hql := hbq.lt; have h14 := st.c14; clear hbn))
      go_ret
      exact ⟨ret_int H.out.symm, st.hb⟩
    · by_cases h1 : (F.code.length : Int) ≤ a
      · have hp : F.place a = false := by simp [Fn.place]; omega
        have H : Hid (holdsF F rs a j pl = _) := Lib.hid (by unfold holdsF; rw [ha, hp]; try rfl)
        go_enter Try.func23, Try.ntmps23
        go_wp2_with (first | go_skip | ((with_reducible refine at_box 30 rfl ?_); refine bx30 _ rfl x F rfl rfl ?_; intro w1 hbx hb1 hs1; have st := St.new hbx hb1; have ho := st.old; have h14 := st.c14; have h15 := st.c15; clear hbx hb1 hs1) | ((with_reducible refine at_box 44 rfl ?_); refine wp_box 44 _ rfl #[.int .i64 a, .int .i64 j, .slice A pl.length ac] rfl rfl ?_; intro w2 hbq hb2 hs2; have st := St.next (by assumption) hb2; have ho := st.old; have h14 := st.c14; have h15 := st.c15; clear hb2; have q0 := (hbq.cell 0).trans rfl; have q1 := (hbq.cell 1).trans rfl; have q2 := (hbq.cell 2).trans rfl; have hql := hbq.lt; have h14 := st.c14) | ((with_reducible refine at_load 30 rfl ?_); refine ld30 _ rfl _ rfl x F (St.bx (by assumption)) rfl ?_) | ((with_reducible refine at_load 44 rfl ?_); refine wp_loadbox 44 _ rfl _ rfl _ hbq _ Try.underlying44 rfl (by kernel_rfl) rfl ?_) | (go_at_call 24; refine (Hah.out _ (St.fn (by assumption) hF)).mono ?_; rintro e wn ⟨rfl, hbn⟩; have st := St.next (by assumption) hbn; have hbq := Bk.stay hbq hbn; have q0 := (hbq.cell 0).trans rfl; have q1 := (hbq.cell 1).trans rfl; have q2 := (hbq.cell 2).trans rfl; have hql := hbq.lt; have h14 := st.c14; clear hbn))
        go_ret
        exact ⟨ret_int H.out.symm, st.hb⟩
      · have hp : F.place a = true := Fn.place_iff.2 ⟨by omega, by omega⟩
        by_cases hj : j = -1
        · have hj1 : (j == -1) = true := by simpa using hj
          have hj2 : (j != -1) = false := by simpa using hj
          clear hj
          rcases bool_casesU (withinF F rs j pl a) with hW | hW
          · have K2 := Lib.hid (fun hN : (pl.any fun p => !withinF F rs j pl p) = true => show holdsF F rs a j pl = 2 by unfold holdsF; rw [ha, hp, hj1, hW, hN]; try rfl)
            have K0 := Lib.hid (fun hN : (pl.any fun p => !withinF F rs j pl p) = false => show holdsF F rs a j pl = 0 by unfold holdsF; rw [ha, hp, hj1, hW, hN, hj2]; try rfl)
            go_enter Try.func23, Try.ntmps23
            go_wp2_with (first | go_skip | ((with_reducible refine at_box 30 rfl ?_); refine bx30 _ rfl x F rfl rfl ?_; intro w1 hbx hb1 hs1; have st := St.new hbx hb1; have ho := st.old; have h14 := st.c14; have h15 := st.c15; clear hbx hb1 hs1) | ((with_reducible refine at_box 44 rfl ?_); refine wp_box 44 _ rfl #[.int .i64 a, .int .i64 j, .slice A pl.length ac] rfl rfl ?_; intro w2 hbq hb2 hs2; have st := St.next (by assumption) hb2; have ho := st.old; have h14 := st.c14; have h15 := st.c15; clear hb2; have q0 := (hbq.cell 0).trans rfl; have q1 := (hbq.cell 1).trans rfl; have q2 := (hbq.cell 2).trans rfl; have hql := hbq.lt; have h14 := st.c14) | ((with_reducible refine at_load 30 rfl ?_); refine ld30 _ rfl _ rfl x F (St.bx (by assumption)) rfl ?_) | ((with_reducible refine at_load 44 rfl ?_); refine wp_loadbox 44 _ rfl _ rfl _ hbq _ Try.underlying44 rfl (by kernel_rfl) rfl ?_) | (go_at_call 24; refine (Hah.out _ (St.fn (by assumption) hF)).mono ?_; rintro e wn ⟨rfl, hbn⟩; have st := St.next (by assumption) hbn; have hbq := Bk.stay hbq hbn; have q0 := (hbq.cell 0).trans rfl; have q1 := (hbq.cell 1).trans rfl; have q2 := (hbq.cell 2).trans rfl; have hql := hbq.lt; have h14 := st.c14; clear hbn) | (go_at_call 51; refine (rwithin_any x F R A rs rc a j pl ac _ _ (St.fn (by assumption) hF) (St.row (by assumption) hR) (St.row (by assumption) hA) hm hn hl).mono ?_; rw [hW]; rintro e wn ⟨rfl, hbn⟩; have st := St.next (by assumption) hbn; have hbq := Bk.stay hbq hbn; have q0 := (hbq.cell 0).trans rfl; have q1 := (hbq.cell 1).trans rfl; have q2 := (hbq.cell 2).trans rfl; have hql := hbq.lt; have h14 := st.c14; clear hbn))
            clear hW
            go_loopg [8] pl.length (fun g s wr => ∃ (k : Nat), k ≤ pl.length ∧ g = pl.length - k ∧ s = .int .i64 k ∧ Hid (((pl.take k).any fun p => !withinF F rs j pl p) = false) ∧ Bk wr w1.heap.size 44 #[.int .i64 a, .int .i64 j, .slice A pl.length ac] ∧ St w wr w.heap.size x F)
            case atStart => exact ⟨0, Nat.zero_le _, rfl, rfl, rfl, hbq, st⟩
            case round =>
              clear hbq st
              obtain ⟨k, hk, rfl, rfl, HD, hbq, st⟩ := hrel
              have ho := st.old
              have q0 := (hbq.cell 0).trans rfl; have q1 := (hbq.cell 1).trans rfl; have q2 := (hbq.cell 2).trans rfl; have hql := hbq.lt; have h14 := st.c14
              have hxl := st.bx.lt
              by_cases hlt : k < pl.length
              · obtain ⟨B, off, hA', -, hB, h0'⟩ := hA.int_at hlt
                have hix := ix32 hA' hlt ac
                have hBr : B < wr.heap.size := by have := st.hb.size; omega
                have hs := any_take_succ 0 (fun p => !withinF F rs j pl p) hlt
                have hyes := any_of_at 0 (fun p => !withinF F rs j pl p) hlt
                clear hA'
                generalize pl.getD k 0 = z at *
                have Hs := Lib.hid hs
                have Hyes := Lib.hid hyes
                clear hs hyes
                rcases bool_casesU (withinF F rs j pl z) with hb | hb
                · have Hb := Lib.hid hb
                  clear hb
                  go_wp2_with fail
                  have hS : St w wr.drew w.heap.size x F ∧ Below wr.heap.size wr wr.drew := ⟨st.drew, (Below.refl _ _).drew⟩
                  refine h_begin (S := fun w' => St w w' w.heap.size x F ∧ Below wr.heap.size wr w') 10 #[false, false, false, false, false, false, false, false, false, false] rfl rfl ?_
                  refine h_take (v := ?_) 0 (some 55) rfl rfl (by kernel_rfl) (by kernel_rfl) (by kernel_rfl) (fun _ _ _ h => h) (by rfl) hS (fun wS hSw => ?_) #[true, false, false, false, false, false, false, false, false, false] rfl ?_; rotate_left
                  · refine run_ld30 _ (.tmp 3) ?_ ?_ hSw.1.bx <;> rfl
                  (try simp only [Act.put, List.setIfInBounds_toArray, List.set_cons_zero, List.set_cons_succ])
                  refine h_take (v := ?_) 1 (some 56) rfl rfl (by kernel_rfl) (by kernel_rfl) (by kernel_rfl) (fun _ _ _ h => h) (by rfl) hS (fun wS hSw => ?_) #[true, true, false, false, false, false, false, false, false, false] rfl ?_; rotate_left
                  · clear hSw; go_simp; first | done | with_reducible rfl
                  (try simp only [Act.put, List.setIfInBounds_toArray, List.set_cons_zero, List.set_cons_succ])
                  refine h_take (v := ?_) 2 (some 57) rfl rfl (by kernel_rfl) (by kernel_rfl) (by kernel_rfl) (fun _ _ _ h => h) (by rfl) hS (fun wS hSw => ?_) #[true, true, true, false, false, false, false, false, false, false] rfl ?_; rotate_left
                  · refine run_ld44 _ (.tmp 5) ?_ ?_ (hbq.below hSw.2 hql) rfl <;> rfl
                  (try simp only [Act.put, List.setIfInBounds_toArray, List.set_cons_zero, List.set_cons_succ])
                  refine h_take (v := ?_) 3 (some 58) rfl rfl (by kernel_rfl) (by kernel_rfl) (by kernel_rfl) (fun _ _ _ h => h) (by rfl) hS (fun wS hSw => ?_) #[true, true, true, true, false, false, false, false, false, false] rfl ?_; rotate_left
                  · clear hSw; go_simp; first | done | with_reducible rfl
                  (try simp only [Act.put, List.setIfInBounds_toArray, List.set_cons_zero, List.set_cons_succ])
                  refine h_take (v := ?_) 4 (some 59) rfl rfl (by kernel_rfl) (by kernel_rfl) (by kernel_rfl) (fun _ _ _ h => h) (by rfl) hS (fun wS hSw => ?_) #[true, true, true, true, true, false, false, false, false, false] rfl ?_; rotate_left
                  · have hc := cells_of hSw.2; go_simp; first | done | with_reducible rfl
                  (try simp only [Act.put, List.setIfInBounds_toArray, List.set_cons_zero, List.set_cons_succ])
                  refine h_take (v := ?_) 5 (some 60) rfl rfl (by kernel_rfl) (by kernel_rfl) (by kernel_rfl) (fun _ _ _ h => h) (by rfl) hS (fun wS hSw => ?_) #[true, true, true, true, true, true, false, false, false, false] rfl ?_; rotate_left
                  · clear hSw; go_simp; first | done | with_reducible rfl
                  (try simp only [Act.put, List.setIfInBounds_toArray, List.set_cons_zero, List.set_cons_succ])
                  refine h_take (v := ?_) 6 (some 61) rfl rfl (by kernel_rfl) (by kernel_rfl) (by kernel_rfl) (fun _ _ _ h => h) (by rfl) hS (fun wS hSw => ?_) #[true, true, true, true, true, true, true, false, false, false] rfl ?_; rotate_left
                  · have hc := cells_of hSw.2; go_simp; first | done | with_reducible rfl
                  (try simp only [Act.put, List.setIfInBounds_toArray, List.set_cons_zero, List.set_cons_succ])
                  refine h_take (v := ?_) 7 (some 62) rfl rfl (by kernel_rfl) (by kernel_rfl) (by kernel_rfl) (fun _ _ _ h => h) (by rfl) hS (fun wS hSw => ?_) #[true, true, true, true, true, true, true, true, false, false] rfl ?_; rotate_left
                  · have hc := cells_of hSw.2; go_simp; first | done | with_reducible rfl
                  (try simp only [Act.put, List.setIfInBounds_toArray, List.set_cons_zero, List.set_cons_succ])
                  refine h_call 8 (some 63) (by kernel_rfl) rfl rfl (by rfl) #[true, true, true, true, true, true, true, true, true, false] rfl (by go_simp; exact ⟨rfl, rfl⟩) ?_
                  refine (rwithin_any x F R A rs rc a j pl ac z _ (St.fn hS.1 hF) (St.row hS.1 hR) (St.row hS.1 hA) hm hn hl).mono ?_
                  rintro e wn ⟨rfl, hbn⟩
                  refine ⟨_, rfl, ?_, ?_⟩
                  · exact ⟨St.next hS.1 hbn, hS.2.trans (hbn.mono hS.2.size)⟩
                  have hS : _ ∧ _ := ⟨St.next hS.1 hbn, hS.2.trans (hbn.mono hS.2.size)⟩
                  (try simp only [Act.put, List.setIfInBounds_toArray, List.set_cons_zero, List.set_cons_succ, Hb.out])
                  refine h_take (v := ?_) 9 (some 64) rfl rfl (by kernel_rfl) (by kernel_rfl) (by kernel_rfl) (fun _ _ _ h => h) (by rfl) hS (fun wS hSw => ?_) #[true, true, true, true, true, true, true, true, true, true] rfl ?_; rotate_left
                  · clear hSw; go_simp; first | done | with_reducible rfl
                  (try simp only [Act.put, List.setIfInBounds_toArray, List.set_cons_zero, List.set_cons_succ])
                  refine wpAnyH_done (by kernel_rfl) ?_ _
                  have st := hS.1
                  have hbq := hbq.stay hS.2
                  clear hS
                  go_wp2
                  go_roundg (pl.length - (k + 1))
                  case measure => omega
                  case rel => exact ⟨k + 1, by omega, rfl, by go_num, Lib.hid (by rw [Hs.out, HD.out, Hb.out]; rfl), hbq, st⟩
                · have Hb := Lib.hid hb
                  clear hb
                  go_wp2_with fail
                  have hS : St w wr.drew w.heap.size x F ∧ Below wr.heap.size wr wr.drew := ⟨st.drew, (Below.refl _ _).drew⟩
                  refine h_begin (S := fun w' => St w w' w.heap.size x F ∧ Below wr.heap.size wr w') 10 #[false, false, false, false, false, false, false, false, false, false] rfl rfl ?_
                  refine h_take (v := ?_) 0 (some 55) rfl rfl (by kernel_rfl) (by kernel_rfl) (by kernel_rfl) (fun _ _ _ h => h) (by rfl) hS (fun wS hSw => ?_) #[true, false, false, false, false, false, false, false, false, false] rfl ?_; rotate_left
                  · refine run_ld30 _ (.tmp 3) ?_ ?_ hSw.1.bx <;> rfl
                  (try simp only [Act.put, List.setIfInBounds_toArray, List.set_cons_zero, List.set_cons_succ])
                  refine h_take (v := ?_) 1 (some 56) rfl rfl (by kernel_rfl) (by kernel_rfl) (by kernel_rfl) (fun _ _ _ h => h) (by rfl) hS (fun wS hSw => ?_) #[true, true, false, false, false, false, false, false, false, false] rfl ?_; rotate_left
                  · clear hSw; go_simp; first | done | with_reducible rfl
                  (try simp only [Act.put, List.setIfInBounds_toArray, List.set_cons_zero, List.set_cons_succ])
                  refine h_take (v := ?_) 2 (some 57) rfl rfl (by kernel_rfl) (by kernel_rfl) (by kernel_rfl) (fun _ _ _ h => h) (by rfl) hS (fun wS hSw => ?_) #[true, true, true, false, false, false, false, false, false, false] rfl ?_; rotate_left
                  · refine run_ld44 _ (.tmp 5) ?_ ?_ (hbq.below hSw.2 hql) rfl <;> rfl
                  (try simp only [Act.put, List.setIfInBounds_toArray, List.set_cons_zero, List.set_cons_succ])
                  refine h_take (v := ?_) 3 (some 58) rfl rfl (by kernel_rfl) (by kernel_rfl) (by kernel_rfl) (fun _ _ _ h => h) (by rfl) hS (fun wS hSw => ?_) #[true, true, true, true, false, false, false, false, false, false] rfl ?_; rotate_left
                  · clear hSw; go_simp; first | done | with_reducible rfl
                  (try simp only [Act.put, List.setIfInBounds_toArray, List.set_cons_zero, List.set_cons_succ])
                  refine h_take (v := ?_) 4 (some 59) rfl rfl (by kernel_rfl) (by kernel_rfl) (by kernel_rfl) (fun _ _ _ h => h) (by rfl) hS (fun wS hSw => ?_) #[true, true, true, true, true, false, false, false, false, false] rfl ?_; rotate_left
                  · have hc := cells_of hSw.2; go_simp; first | done | with_reducible rfl
                  (try simp only [Act.put, List.setIfInBounds_toArray, List.set_cons_zero, List.set_cons_succ])
                  refine h_take (v := ?_) 5 (some 60) rfl rfl (by kernel_rfl) (by kernel_rfl) (by kernel_rfl) (fun _ _ _ h => h) (by rfl) hS (fun wS hSw => ?_) #[true, true, true, true, true, true, false, false, false, false] rfl ?_; rotate_left
                  · clear hSw; go_simp; first | done | with_reducible rfl
                  (try simp only [Act.put, List.setIfInBounds_toArray, List.set_cons_zero, List.set_cons_succ])
                  refine h_take (v := ?_) 6 (some 61) rfl rfl (by kernel_rfl) (by kernel_rfl) (by kernel_rfl) (fun _ _ _ h => h) (by rfl) hS (fun wS hSw => ?_) #[true, true, true, true, true, true, true, false, false, false] rfl ?_; rotate_left
                  · have hc := cells_of hSw.2; go_simp; first | done | with_reducible rfl
                  (try simp only [Act.put, List.setIfInBounds_toArray, List.set_cons_zero, List.set_cons_succ])
                  refine h_take (v := ?_) 7 (some 62) rfl rfl (by kernel_rfl) (by kernel_rfl) (by kernel_rfl) (fun _ _ _ h => h) (by rfl) hS (fun wS hSw => ?_) #[true, true, true, true, true, true, true, true, false, false] rfl ?_; rotate_left
                  · have hc := cells_of hSw.2; go_simp; first | done | with_reducible rfl
                  (try simp only [Act.put, List.setIfInBounds_toArray, List.set_cons_zero, List.set_cons_succ])
                  refine h_call 8 (some 63) (by kernel_rfl) rfl rfl (by rfl) #[true, true, true, true, true, true, true, true, true, false] rfl (by go_simp; exact ⟨rfl, rfl⟩) ?_
                  refine (rwithin_any x F R A rs rc a j pl ac z _ (St.fn hS.1 hF) (St.row hS.1 hR) (St.row hS.1 hA) hm hn hl).mono ?_
                  rintro e wn ⟨rfl, hbn⟩
                  refine ⟨_, rfl, ?_, ?_⟩
                  · exact ⟨St.next hS.1 hbn, hS.2.trans (hbn.mono hS.2.size)⟩
                  have hS : _ ∧ _ := ⟨St.next hS.1 hbn, hS.2.trans (hbn.mono hS.2.size)⟩
                  (try simp only [Act.put, List.setIfInBounds_toArray, List.set_cons_zero, List.set_cons_succ, Hb.out])
                  refine h_take (v := ?_) 9 (some 64) rfl rfl (by kernel_rfl) (by kernel_rfl) (by kernel_rfl) (fun _ _ _ h => h) (by rfl) hS (fun wS hSw => ?_) #[true, true, true, true, true, true, true, true, true, true] rfl ?_; rotate_left
                  · clear hSw; go_simp; first | done | with_reducible rfl
                  (try simp only [Act.put, List.setIfInBounds_toArray, List.set_cons_zero, List.set_cons_succ])
                  refine wpAnyH_done (by kernel_rfl) ?_ _
                  have st := hS.1
                  have hbq := hbq.stay hS.2
                  clear hS
                  go_wp2
                  go_ret
                  exact ⟨ret_int (K2.out (Hyes.out (by rw [Hb.out]; rfl))).symm, st.hb⟩
              · have hd : pl.any (fun p => !withinF F rs j pl p) = false := by
                  have := HD.out
                  rwa [List.take_of_length_le (by omega)] at this
                have HN := Lib.hid hd
                clear hd HD
                go_wp2
                go_ret
                exact ⟨ret_int (K0.out HN.out).symm, st.hb⟩
          · have H : Hid (holdsF F rs a j pl = _) := Lib.hid (by unfold holdsF; rw [ha, hp, hj1, hW]; try rfl)
            go_enter Try.func23, Try.ntmps23
            go_wp2_with (first | go_skip | ((with_reducible refine at_box 30 rfl ?_); refine bx30 _ rfl x F rfl rfl ?_; intro w1 hbx hb1 hs1; have st := St.new hbx hb1; have ho := st.old; have h14 := st.c14; have h15 := st.c15; clear hbx hb1 hs1) | ((with_reducible refine at_box 44 rfl ?_); refine wp_box 44 _ rfl #[.int .i64 a, .int .i64 j, .slice A pl.length ac] rfl rfl ?_; intro w2 hbq hb2 hs2; have st := St.next (by assumption) hb2; have ho := st.old; have h14 := st.c14; have h15 := st.c15; clear hb2; have q0 := (hbq.cell 0).trans rfl; have q1 := (hbq.cell 1).trans rfl; have q2 := (hbq.cell 2).trans rfl; have hql := hbq.lt; have h14 := st.c14) | ((with_reducible refine at_load 30 rfl ?_); refine ld30 _ rfl _ rfl x F (St.bx (by assumption)) rfl ?_) | ((with_reducible refine at_load 44 rfl ?_); refine wp_loadbox 44 _ rfl _ rfl _ hbq _ Try.underlying44 rfl (by kernel_rfl) rfl ?_) | (go_at_call 24; refine (Hah.out _ (St.fn (by assumption) hF)).mono ?_; rintro e wn ⟨rfl, hbn⟩; have st := St.next (by assumption) hbn; have hbq := Bk.stay hbq hbn; have q0 := (hbq.cell 0).trans rfl; have q1 := (hbq.cell 1).trans rfl; have q2 := (hbq.cell 2).trans rfl; have hql := hbq.lt; have h14 := st.c14; clear hbn) | (go_at_call 51; refine (rwithin_any x F R A rs rc a j pl ac _ _ (St.fn (by assumption) hF) (St.row (by assumption) hR) (St.row (by assumption) hA) hm hn hl).mono ?_; rw [hW]; rintro e wn ⟨rfl, hbn⟩; have st := St.next (by assumption) hbn; have hbq := Bk.stay hbq hbn; have q0 := (hbq.cell 0).trans rfl; have q1 := (hbq.cell 1).trans rfl; have q2 := (hbq.cell 2).trans rfl; have hql := hbq.lt; have h14 := st.c14; clear hbn))
            go_ret
            exact ⟨ret_int H.out.symm, st.hb⟩
        · have hj1 : (j == -1) = false := by simpa using hj
          have hj2 : (j != -1) = true := by simpa using hj
          by_cases h2 : j < 0
          · have hpj : F.place j = false := by simp [Fn.place]; omega
            have H : Hid (holdsF F rs a j pl = _) := Lib.hid (by unfold holdsF; rw [ha, hp, hj1, hpj]; try rfl)
            go_enter Try.func23, Try.ntmps23
            go_wp2_with (first | go_skip | ((with_reducible refine at_box 30 rfl ?_); refine bx30 _ rfl x F rfl rfl ?_; intro w1 hbx hb1 hs1; have st := St.new hbx hb1; have ho := st.old; have h14 := st.c14; have h15 := st.c15; clear hbx hb1 hs1) | ((with_reducible refine at_box 44 rfl ?_); refine wp_box 44 _ rfl #[.int .i64 a, .int .i64 j, .slice A pl.length ac] rfl rfl ?_; intro w2 hbq hb2 hs2; have st := St.next (by assumption) hb2; have ho := st.old; have h14 := st.c14; have h15 := st.c15; clear hb2; have q0 := (hbq.cell 0).trans rfl; have q1 := (hbq.cell 1).trans rfl; have q2 := (hbq.cell 2).trans rfl; have hql := hbq.lt; have h14 := st.c14) | ((with_reducible refine at_load 30 rfl ?_); refine ld30 _ rfl _ rfl x F (St.bx (by assumption)) rfl ?_) | ((with_reducible refine at_load 44 rfl ?_); refine wp_loadbox 44 _ rfl _ rfl _ hbq _ Try.underlying44 rfl (by kernel_rfl) rfl ?_) | (go_at_call 24; refine (Hah.out _ (St.fn (by assumption) hF)).mono ?_; rintro e wn ⟨rfl, hbn⟩; have st := St.next (by assumption) hbn; have hbq := Bk.stay hbq hbn; have q0 := (hbq.cell 0).trans rfl; have q1 := (hbq.cell 1).trans rfl; have q2 := (hbq.cell 2).trans rfl; have hql := hbq.lt; have h14 := st.c14; clear hbn))
            go_ret
            exact ⟨ret_int H.out.symm, st.hb⟩
          · by_cases h3 : (F.code.length : Int) ≤ j
            · have hpj : F.place j = false := by simp [Fn.place]; omega
              have H : Hid (holdsF F rs a j pl = _) := Lib.hid (by unfold holdsF; rw [ha, hp, hj1, hpj]; try rfl)
              go_enter Try.func23, Try.ntmps23
              go_wp2_with (first | go_skip | ((with_reducible refine at_box 30 rfl ?_); refine bx30 _ rfl x F rfl rfl ?_; intro w1 hbx hb1 hs1; have st := St.new hbx hb1; have ho := st.old; have h14 := st.c14; have h15 := st.c15; clear hbx hb1 hs1) | ((with_reducible refine at_box 44 rfl ?_); refine wp_box 44 _ rfl #[.int .i64 a, .int .i64 j, .slice A pl.length ac] rfl rfl ?_; intro w2 hbq hb2 hs2; have st := St.next (by assumption) hb2; have ho := st.old; have h14 := st.c14; have h15 := st.c15; clear hb2; have q0 := (hbq.cell 0).trans rfl; have q1 := (hbq.cell 1).trans rfl; have q2 := (hbq.cell 2).trans rfl; have hql := hbq.lt; have h14 := st.c14) | ((with_reducible refine at_load 30 rfl ?_); refine ld30 _ rfl _ rfl x F (St.bx (by assumption)) rfl ?_) | ((with_reducible refine at_load 44 rfl ?_); refine wp_loadbox 44 _ rfl _ rfl _ hbq _ Try.underlying44 rfl (by kernel_rfl) rfl ?_) | (go_at_call 24; refine (Hah.out _ (St.fn (by assumption) hF)).mono ?_; rintro e wn ⟨rfl, hbn⟩; have st := St.next (by assumption) hbn; have hbq := Bk.stay hbq hbn; have q0 := (hbq.cell 0).trans rfl; have q1 := (hbq.cell 1).trans rfl; have q2 := (hbq.cell 2).trans rfl; have hql := hbq.lt; have h14 := st.c14; clear hbn))
              go_ret
              exact ⟨ret_int H.out.symm, st.hb⟩
            · have hpj : F.place j = true := Fn.place_iff.2 ⟨by omega, by omega⟩
              rcases bool_casesU (withinF F rs j pl a) with hW | hW
              · have K2 := Lib.hid (fun hN : (pl.any fun p => !withinF F rs j pl p) = true => show holdsF F rs a j pl = 2 by unfold holdsF; rw [ha, hp, hj1, hpj, hW, hN]; try rfl)
                have K3 := Lib.hid (fun (hN : (pl.any fun p => !withinF F rs j pl p) = false) (hL : F.leaves rs a = true) => show holdsF F rs a j pl = 3 by unfold holdsF; rw [ha, hp, hj1, hpj, hW, hN, hj2, hL]; try rfl)
                have K4 := Lib.hid (fun (hN : (pl.any fun p => !withinF F rs j pl p) = false) (hL : F.leaves rs a = false) (hP : (pl.any fun p => F.leaves rs p) = true) => show holdsF F rs a j pl = 3 by unfold holdsF; rw [ha, hp, hj1, hpj, hW, hN, hj2, hL, hP]; try rfl)
                have K5 := Lib.hid (fun (hN : (pl.any fun p => !withinF F rs j pl p) = false) (hL : F.leaves rs a = false) (hP : (pl.any fun p => F.leaves rs p) = false) => show holdsF F rs a j pl = 0 by unfold holdsF; rw [ha, hp, hj1, hpj, hW, hN, hj2, hL, hP]; try rfl)
                go_enter Try.func23, Try.ntmps23
                go_wp2_with (first | go_skip | ((with_reducible refine at_box 30 rfl ?_); refine bx30 _ rfl x F rfl rfl ?_; intro w1 hbx hb1 hs1; have st := St.new hbx hb1; have ho := st.old; have h14 := st.c14; have h15 := st.c15; clear hbx hb1 hs1) | ((with_reducible refine at_box 44 rfl ?_); refine wp_box 44 _ rfl #[.int .i64 a, .int .i64 j, .slice A pl.length ac] rfl rfl ?_; intro w2 hbq hb2 hs2; have st := St.next (by assumption) hb2; have ho := st.old; have h14 := st.c14; have h15 := st.c15; clear hb2; have q0 := (hbq.cell 0).trans rfl; have q1 := (hbq.cell 1).trans rfl; have q2 := (hbq.cell 2).trans rfl; have hql := hbq.lt; have h14 := st.c14) | ((with_reducible refine at_load 30 rfl ?_); refine ld30 _ rfl _ rfl x F (St.bx (by assumption)) rfl ?_) | ((with_reducible refine at_load 44 rfl ?_); refine wp_loadbox 44 _ rfl _ rfl _ hbq _ Try.underlying44 rfl (by kernel_rfl) rfl ?_) | (go_at_call 24; refine (Hah.out _ (St.fn (by assumption) hF)).mono ?_; rintro e wn ⟨rfl, hbn⟩; have st := St.next (by assumption) hbn; have hbq := Bk.stay hbq hbn; have q0 := (hbq.cell 0).trans rfl; have q1 := (hbq.cell 1).trans rfl; have q2 := (hbq.cell 2).trans rfl; have hql := hbq.lt; have h14 := st.c14; clear hbn) | (go_at_call 51; refine (rwithin_any x F R A rs rc a j pl ac _ _ (St.fn (by assumption) hF) (St.row (by assumption) hR) (St.row (by assumption) hA) hm hn hl).mono ?_; rw [hW]; rintro e wn ⟨rfl, hbn⟩; have st := St.next (by assumption) hbn; have hbq := Bk.stay hbq hbn; have q0 := (hbq.cell 0).trans rfl; have q1 := (hbq.cell 1).trans rfl; have q2 := (hbq.cell 2).trans rfl; have hql := hbq.lt; have h14 := st.c14; clear hbn))
                clear hW
                go_loopg [8] pl.length (fun g s wr => ∃ (k : Nat), k ≤ pl.length ∧ g = pl.length - k ∧ s = .int .i64 k ∧ Hid (((pl.take k).any fun p => !withinF F rs j pl p) = false) ∧ Bk wr w1.heap.size 44 #[.int .i64 a, .int .i64 j, .slice A pl.length ac] ∧ St w wr w.heap.size x F)
                case atStart => exact ⟨0, Nat.zero_le _, rfl, rfl, rfl, hbq, st⟩
                case round =>
                  clear hbq st
                  obtain ⟨k, hk, rfl, rfl, HD, hbq, st⟩ := hrel
                  have ho := st.old
                  have q0 := (hbq.cell 0).trans rfl; have q1 := (hbq.cell 1).trans rfl; have q2 := (hbq.cell 2).trans rfl; have hql := hbq.lt; have h14 := st.c14
                  have hxl := st.bx.lt
                  by_cases hlt : k < pl.length
                  · obtain ⟨B, off, hA', -, hB, h0'⟩ := hA.int_at hlt
                    have hix := ix32 hA' hlt ac
                    have hBr : B < wr.heap.size := by have := st.hb.size; omega
                    have hs := any_take_succ 0 (fun p => !withinF F rs j pl p) hlt
                    have hyes := any_of_at 0 (fun p => !withinF F rs j pl p) hlt
                    clear hA'
                    generalize pl.getD k 0 = z at *
                    have Hs := Lib.hid hs
                    have Hyes := Lib.hid hyes
                    clear hs hyes
                    rcases bool_casesU (withinF F rs j pl z) with hb | hb
                    · have Hb := Lib.hid hb
                      clear hb
                      go_wp2_with fail
                      have hS : St w wr.drew w.heap.size x F ∧ Below wr.heap.size wr wr.drew := ⟨st.drew, (Below.refl _ _).drew⟩
                      refine h_begin (S := fun w' => St w w' w.heap.size x F ∧ Below wr.heap.size wr w') 10 #[false, false, false, false, false, false, false, false, false, false] rfl rfl ?_
                      refine h_take (v := ?_) 0 (some 55) rfl rfl (by kernel_rfl) (by kernel_rfl) (by kernel_rfl) (fun _ _ _ h => h) (by rfl) hS (fun wS hSw => ?_) #[true, false, false, false, false, false, false, false, false, false] rfl ?_; rotate_left
                      · refine run_ld30 _ (.tmp 3) ?_ ?_ hSw.1.bx <;> rfl
                      (try simp only [Act.put, List.setIfInBounds_toArray, List.set_cons_zero, List.set_cons_succ])
                      refine h_take (v := ?_) 1 (some 56) rfl rfl (by kernel_rfl) (by kernel_rfl) (by kernel_rfl) (fun _ _ _ h => h) (by rfl) hS (fun wS hSw => ?_) #[true, true, false, false, false, false, false, false, false, false] rfl ?_; rotate_left
                      · clear hSw; go_simp; first | done | with_reducible rfl
                      (try simp only [Act.put, List.setIfInBounds_toArray, List.set_cons_zero, List.set_cons_succ])
                      refine h_take (v := ?_) 2 (some 57) rfl rfl (by kernel_rfl) (by kernel_rfl) (by kernel_rfl) (fun _ _ _ h => h) (by rfl) hS (fun wS hSw => ?_) #[true, true, true, false, false, false, false, false, false, false] rfl ?_; rotate_left
                      · refine run_ld44 _ (.tmp 5) ?_ ?_ (hbq.below hSw.2 hql) rfl <;> rfl
                      (try simp only [Act.put, List.setIfInBounds_toArray, List.set_cons_zero, List.set_cons_succ])
                      refine h_take (v := ?_) 3 (some 58) rfl rfl (by kernel_rfl) (by kernel_rfl) (by kernel_rfl) (fun _ _ _ h => h) (by rfl) hS (fun wS hSw => ?_) #[true, true, true, true, false, false, false, false, false, false] rfl ?_; rotate_left
                      · clear hSw; go_simp; first | done | with_reducible rfl
                      (try simp only [Act.put, List.setIfInBounds_toArray, List.set_cons_zero, List.set_cons_succ])
                      refine h_take (v := ?_) 4 (some 59) rfl rfl (by kernel_rfl) (by kernel_rfl) (by kernel_rfl) (fun _ _ _ h => h) (by rfl) hS (fun wS hSw => ?_) #[true, true, true, true, true, false, false, false, false, false] rfl ?_; rotate_left
                      · have hc := cells_of hSw.2; go_simp; first | done | with_reducible rfl
                      (try simp only [Act.put, List.setIfInBounds_toArray, List.set_cons_zero, List.set_cons_succ])
                      refine h_take (v := ?_) 5 (some 60) rfl rfl (by kernel_rfl) (by kernel_rfl) (by kernel_rfl) (fun _ _ _ h => h) (by rfl) hS (fun wS hSw => ?_) #[true, true, true, true, true, true, false, false, false, false] rfl ?_; rotate_left
                      · clear hSw; go_simp; first | done | with_reducible rfl
                      (try simp only [Act.put, List.setIfInBounds_toArray, List.set_cons_zero, List.set_cons_succ])
                      refine h_take (v := ?_) 6 (some 61) rfl rfl (by kernel_rfl) (by kernel_rfl) (by kernel_rfl) (fun _ _ _ h => h) (by rfl) hS (fun wS hSw => ?_) #[true, true, true, true, true, true, true, false, false, false] rfl ?_; rotate_left
                      · have hc := cells_of hSw.2; go_simp; first | done | with_reducible rfl
                      (try simp only [Act.put, List.setIfInBounds_toArray, List.set_cons_zero, List.set_cons_succ])
                      refine h_take (v := ?_) 7 (some 62) rfl rfl (by kernel_rfl) (by kernel_rfl) (by kernel_rfl) (fun _ _ _ h => h) (by rfl) hS (fun wS hSw => ?_) #[true, true, true, true, true, true, true, true, false, false] rfl ?_; rotate_left
                      · have hc := cells_of hSw.2; go_simp; first | done | with_reducible rfl
                      (try simp only [Act.put, List.setIfInBounds_toArray, List.set_cons_zero, List.set_cons_succ])
                      refine h_call 8 (some 63) (by kernel_rfl) rfl rfl (by rfl) #[true, true, true, true, true, true, true, true, true, false] rfl (by go_simp; exact ⟨rfl, rfl⟩) ?_
                      refine (rwithin_any x F R A rs rc a j pl ac z _ (St.fn hS.1 hF) (St.row hS.1 hR) (St.row hS.1 hA) hm hn hl).mono ?_
                      rintro e wn ⟨rfl, hbn⟩
                      refine ⟨_, rfl, ?_, ?_⟩
                      · exact ⟨St.next hS.1 hbn, hS.2.trans (hbn.mono hS.2.size)⟩
                      have hS : _ ∧ _ := ⟨St.next hS.1 hbn, hS.2.trans (hbn.mono hS.2.size)⟩
                      (try simp only [Act.put, List.setIfInBounds_toArray, List.set_cons_zero, List.set_cons_succ, Hb.out])
                      refine h_take (v := ?_) 9 (some 64) rfl rfl (by kernel_rfl) (by kernel_rfl) (by kernel_rfl) (fun _ _ _ h => h) (by rfl) hS (fun wS hSw => ?_) #[true, true, true, true, true, true, true, true, true, true] rfl ?_; rotate_left
                      · clear hSw; go_simp; first | done | with_reducible rfl
                      (try simp only [Act.put, List.setIfInBounds_toArray, List.set_cons_zero, List.set_cons_succ])
                      refine wpAnyH_done (by kernel_rfl) ?_ _
                      have st := hS.1
                      have hbq := hbq.stay hS.2
                      clear hS
                      go_wp2
                      go_roundg (pl.length - (k + 1))
                      case measure => omega
                      case rel => exact ⟨k + 1, by omega, rfl, by go_num, Lib.hid (by rw [Hs.out, HD.out, Hb.out]; rfl), hbq, st⟩
                    · have Hb := Lib.hid hb
                      clear hb
                      go_wp2_with fail
                      have hS : St w wr.drew w.heap.size x F ∧ Below wr.heap.size wr wr.drew := ⟨st.drew, (Below.refl _ _).drew⟩
                      refine h_begin (S := fun w' => St w w' w.heap.size x F ∧ Below wr.heap.size wr w') 10 #[false, false, false, false, false, false, false, false, false, false] rfl rfl ?_
                      refine h_take (v := ?_) 0 (some 55) rfl rfl (by kernel_rfl) (by kernel_rfl) (by kernel_rfl) (fun _ _ _ h => h) (by rfl) hS (fun wS hSw => ?_) #[true, false, false, false, false, false, false, false, false, false] rfl ?_; rotate_left
                      · refine run_ld30 _ (.tmp 3) ?_ ?_ hSw.1.bx <;> rfl
                      (try simp only [Act.put, List.setIfInBounds_toArray, List.set_cons_zero, List.set_cons_succ])
                      refine h_take (v := ?_) 1 (some 56) rfl rfl (by kernel_rfl) (by kernel_rfl) (by kernel_rfl) (fun _ _ _ h => h) (by rfl) hS (fun wS hSw => ?_) #[true, true, false, false, false, false, false, false, false, false] rfl ?_; rotate_left
                      · clear hSw; go_simp; first | done | with_reducible rfl
                      (try simp only [Act.put, List.setIfInBounds_toArray, List.set_cons_zero, List.set_cons_succ])
                      refine h_take (v := ?_) 2 (some 57) rfl rfl (by kernel_rfl) (by kernel_rfl) (by kernel_rfl) (fun _ _ _ h => h) (by rfl) hS (fun wS hSw => ?_) #[true, true, true, false, false, false, false, false, false, false] rfl ?_; rotate_left
                      · refine run_ld44 _ (.tmp 5) ?_ ?_ (hbq.below hSw.2 hql) rfl <;> rfl
                      (try simp only [Act.put, List.setIfInBounds_toArray, List.set_cons_zero, List.set_cons_succ])
                      refine h_take (v := ?_) 3 (some 58) rfl rfl (by kernel_rfl) (by kernel_rfl) (by kernel_rfl) (fun _ _ _ h => h) (by rfl) hS (fun wS hSw => ?_) #[true, true, true, true, false, false, false, false, false, false] rfl ?_; rotate_left
                      · clear hSw; go_simp; first | done | with_reducible rfl
                      (try simp only [Act.put, List.setIfInBounds_toArray, List.set_cons_zero, List.set_cons_succ])
                      refine h_take (v := ?_) 4 (some 59) rfl rfl (by kernel_rfl) (by kernel_rfl) (by kernel_rfl) (fun _ _ _ h => h) (by rfl) hS (fun wS hSw => ?_) #[true, true, true, true, true, false, false, false, false, false] rfl ?_; rotate_left
                      · have hc := cells_of hSw.2; go_simp; first | done | with_reducible rfl
                      (try simp only [Act.put, List.setIfInBounds_toArray, List.set_cons_zero, List.set_cons_succ])
                      refine h_take (v := ?_) 5 (some 60) rfl rfl (by kernel_rfl) (by kernel_rfl) (by kernel_rfl) (fun _ _ _ h => h) (by rfl) hS (fun wS hSw => ?_) #[true, true, true, true, true, true, false, false, false, false] rfl ?_; rotate_left
                      · clear hSw; go_simp; first | done | with_reducible rfl
                      (try simp only [Act.put, List.setIfInBounds_toArray, List.set_cons_zero, List.set_cons_succ])
                      refine h_take (v := ?_) 6 (some 61) rfl rfl (by kernel_rfl) (by kernel_rfl) (by kernel_rfl) (fun _ _ _ h => h) (by rfl) hS (fun wS hSw => ?_) #[true, true, true, true, true, true, true, false, false, false] rfl ?_; rotate_left
                      · have hc := cells_of hSw.2; go_simp; first | done | with_reducible rfl
                      (try simp only [Act.put, List.setIfInBounds_toArray, List.set_cons_zero, List.set_cons_succ])
                      refine h_take (v := ?_) 7 (some 62) rfl rfl (by kernel_rfl) (by kernel_rfl) (by kernel_rfl) (fun _ _ _ h => h) (by rfl) hS (fun wS hSw => ?_) #[true, true, true, true, true, true, true, true, false, false] rfl ?_; rotate_left
                      · have hc := cells_of hSw.2; go_simp; first | done | with_reducible rfl
                      (try simp only [Act.put, List.setIfInBounds_toArray, List.set_cons_zero, List.set_cons_succ])
                      refine h_call 8 (some 63) (by kernel_rfl) rfl rfl (by rfl) #[true, true, true, true, true, true, true, true, true, false] rfl (by go_simp; exact ⟨rfl, rfl⟩) ?_
                      refine (rwithin_any x F R A rs rc a j pl ac z _ (St.fn hS.1 hF) (St.row hS.1 hR) (St.row hS.1 hA) hm hn hl).mono ?_
                      rintro e wn ⟨rfl, hbn⟩
                      refine ⟨_, rfl, ?_, ?_⟩
                      · exact ⟨St.next hS.1 hbn, hS.2.trans (hbn.mono hS.2.size)⟩
                      have hS : _ ∧ _ := ⟨St.next hS.1 hbn, hS.2.trans (hbn.mono hS.2.size)⟩
                      (try simp only [Act.put, List.setIfInBounds_toArray, List.set_cons_zero, List.set_cons_succ, Hb.out])
                      refine h_take (v := ?_) 9 (some 64) rfl rfl (by kernel_rfl) (by kernel_rfl) (by kernel_rfl) (fun _ _ _ h => h) (by rfl) hS (fun wS hSw => ?_) #[true, true, true, true, true, true, true, true, true, true] rfl ?_; rotate_left
                      · clear hSw; go_simp; first | done | with_reducible rfl
                      (try simp only [Act.put, List.setIfInBounds_toArray, List.set_cons_zero, List.set_cons_succ])
                      refine wpAnyH_done (by kernel_rfl) ?_ _
                      have st := hS.1
                      have hbq := hbq.stay hS.2
                      clear hS
                      go_wp2
                      go_ret
                      exact ⟨ret_int (K2.out (Hyes.out (by rw [Hb.out]; rfl))).symm, st.hb⟩
                  · have hd : pl.any (fun p => !withinF F rs j pl p) = false := by
                      have := HD.out
                      rwa [List.take_of_length_le (by omega)] at this
                    have HN := Lib.hid hd
                    clear hd HD
                    rcases bool_casesU (F.leaves rs a) with hL | hL
                    · have HL := Lib.hid hL
                      go_wp2_with (first | go_skip | ((with_reducible refine at_box 30 rfl ?_); refine bx30 _ rfl x F rfl rfl ?_; intro w1 hbx hb1 hs1; have st := St.new hbx hb1; have ho := st.old; have h14 := st.c14; have h15 := st.c15; clear hbx hb1 hs1) | ((with_reducible refine at_box 44 rfl ?_); refine wp_box 44 _ rfl #[.int .i64 a, .int .i64 j, .slice A pl.length ac] rfl rfl ?_; intro w2 hbq hb2 hs2; have st := St.next (by assumption) hb2; have ho := st.old; have h14 := st.c14; have h15 := st.c15; clear hb2; have q0 := (hbq.cell 0).trans rfl; have q1 := (hbq.cell 1).trans rfl; have q2 := (hbq.cell 2).trans rfl; have hql := hbq.lt; have h14 := st.c14) | ((with_reducible refine at_load 30 rfl ?_); refine ld30 _ rfl _ rfl x F (St.bx (by assumption)) rfl ?_) | ((with_reducible refine at_load 44 rfl ?_); refine wp_loadbox 44 _ rfl _ rfl _ hbq _ Try.underlying44 rfl (by kernel_rfl) rfl ?_) | (go_at_call 24; refine (Hah.out _ (St.fn (by assumption) hF)).mono ?_; rintro e wn ⟨rfl, hbn⟩; have st := St.next (by assumption) hbn; have hbq := Bk.stay hbq hbn; have q0 := (hbq.cell 0).trans rfl; have q1 := (hbq.cell 1).trans rfl; have q2 := (hbq.cell 2).trans rfl; have hql := hbq.lt; have h14 := st.c14; clear hbn) | (go_at_call 52; refine (rleaves_any x F R rs rc _ _ (St.fn (by assumption) hF) (St.row (by assumption) hR) hm).mono ?_; rw [hL]; rintro e wn ⟨rfl, hbn⟩; have st := St.next (by assumption) hbn; have hbq := Bk.stay hbq hbn; have q0 := (hbq.cell 0).trans rfl; have q1 := (hbq.cell 1).trans rfl; have q2 := (hbq.cell 2).trans rfl; have hql := hbq.lt; have h14 := st.c14; clear hbn))
                      go_ret
                      exact ⟨ret_int (K3.out HN.out HL.out).symm, st.hb⟩
                    · have HL := Lib.hid hL
                      go_wp2_with (first | go_skip | ((with_reducible refine at_box 30 rfl ?_); refine bx30 _ rfl x F rfl rfl ?_; intro w1 hbx hb1 hs1; have st := St.new hbx hb1; have ho := st.old; have h14 := st.c14; have h15 := st.c15; clear hbx hb1 hs1) | ((with_reducible refine at_box 44 rfl ?_); refine wp_box 44 _ rfl #[.int .i64 a, .int .i64 j, .slice A pl.length ac] rfl rfl ?_; intro w2 hbq hb2 hs2; have st := St.next (by assumption) hb2; have ho := st.old; have h14 := st.c14; have h15 := st.c15; clear hb2; have q0 := (hbq.cell 0).trans rfl; have q1 := (hbq.cell 1).trans rfl; have q2 := (hbq.cell 2).trans rfl; have hql := hbq.lt; have h14 := st.c14) | ((with_reducible refine at_load 30 rfl ?_); refine ld30 _ rfl _ rfl x F (St.bx (by assumption)) rfl ?_) | ((with_reducible refine at_load 44 rfl ?_); refine wp_loadbox 44 _ rfl _ rfl _ hbq _ Try.underlying44 rfl (by kernel_rfl) rfl ?_) | (go_at_call 24; refine (Hah.out _ (St.fn (by assumption) hF)).mono ?_; rintro e wn ⟨rfl, hbn⟩; have st := St.next (by assumption) hbn; have hbq := Bk.stay hbq hbn; have q0 := (hbq.cell 0).trans rfl; have q1 := (hbq.cell 1).trans rfl; have q2 := (hbq.cell 2).trans rfl; have hql := hbq.lt; have h14 := st.c14; clear hbn) | (go_at_call 52; refine (rleaves_any x F R rs rc _ _ (St.fn (by assumption) hF) (St.row (by assumption) hR) hm).mono ?_; rw [hL]; rintro e wn ⟨rfl, hbn⟩; have st := St.next (by assumption) hbn; have hbq := Bk.stay hbq hbn; have q0 := (hbq.cell 0).trans rfl; have q1 := (hbq.cell 1).trans rfl; have q2 := (hbq.cell 2).trans rfl; have hql := hbq.lt; have h14 := st.c14; clear hbn))
                      clear hL
                      go_loopg [9] pl.length (fun g s wr => ∃ (k : Nat), k ≤ pl.length ∧ g = pl.length - k ∧ s = .int .i64 k ∧ Hid (((pl.take k).any fun p => F.leaves rs p) = false) ∧ Bk wr w1.heap.size 44 #[.int .i64 a, .int .i64 j, .slice A pl.length ac] ∧ St w wr w.heap.size x F)
                      case atStart => exact ⟨0, Nat.zero_le _, rfl, rfl, rfl, hbq, st⟩
                      case round =>
                        clear hbq st
                        obtain ⟨k, hk, rfl, rfl, HD, hbq, st⟩ := hrel
                        have ho := st.old
                        have q0 := (hbq.cell 0).trans rfl; have q1 := (hbq.cell 1).trans rfl; have q2 := (hbq.cell 2).trans rfl; have hql := hbq.lt; have h14 := st.c14
                        have hxl := st.bx.lt
                        by_cases hlt : k < pl.length
                        · obtain ⟨B, off, hA', -, hB, h0'⟩ := hA.int_at hlt
                          have hix := ix32 hA' hlt ac
                          have hBr : B < wr.heap.size := by have := st.hb.size; omega
                          have hs := any_take_succ 0 (fun p => F.leaves rs p) hlt
                          have hyes := any_of_at 0 (fun p => F.leaves rs p) hlt
                          clear hA'
                          generalize pl.getD k 0 = z at *
                          have Hs := Lib.hid hs
                          have Hyes := Lib.hid hyes
                          clear hs hyes
                          rcases bool_casesU (F.leaves rs z) with hb | hb
                          · have Hb := Lib.hid hb
                            clear hb
                            go_wp2_with fail
                            have hS : St w wr.drew w.heap.size x F ∧ Below wr.heap.size wr wr.drew := ⟨st.drew, (Below.refl _ _).drew⟩
                            refine h_begin (S := fun w' => St w w' w.heap.size x F ∧ Below wr.heap.size wr w') 8 #[false, false, false, false, false, false, false, false] rfl rfl ?_
                            refine h_take (v := ?_) 0 (some 80) rfl rfl (by kernel_rfl) (by kernel_rfl) (by kernel_rfl) (fun _ _ _ h => h) (by rfl) hS (fun wS hSw => ?_) #[true, false, false, false, false, false, false, false] rfl ?_; rotate_left
                            · refine run_ld30 _ (.tmp 3) ?_ ?_ hSw.1.bx <;> rfl
                            (try simp only [Act.put, List.setIfInBounds_toArray, List.set_cons_zero, List.set_cons_succ])
                            refine h_take (v := ?_) 1 (some 81) rfl rfl (by kernel_rfl) (by kernel_rfl) (by kernel_rfl) (fun _ _ _ h => h) (by rfl) hS (fun wS hSw => ?_) #[true, true, false, false, false, false, false, false] rfl ?_; rotate_left
                            · clear hSw; go_simp; first | done | with_reducible rfl
                            (try simp only [Act.put, List.setIfInBounds_toArray, List.set_cons_zero, List.set_cons_succ])
                            refine h_take (v := ?_) 2 (some 82) rfl rfl (by kernel_rfl) (by kernel_rfl) (by kernel_rfl) (fun _ _ _ h => h) (by rfl) hS (fun wS hSw => ?_) #[true, true, true, false, false, false, false, false] rfl ?_; rotate_left
                            · clear hSw; go_simp; first | done | with_reducible rfl
                            (try simp only [Act.put, List.setIfInBounds_toArray, List.set_cons_zero, List.set_cons_succ])
                            refine h_take (v := ?_) 3 (some 83) rfl rfl (by kernel_rfl) (by kernel_rfl) (by kernel_rfl) (fun _ _ _ h => h) (by rfl) hS (fun wS hSw => ?_) #[true, true, true, true, false, false, false, false] rfl ?_; rotate_left
                            · have hc := cells_of hSw.2; go_simp; first | done | with_reducible rfl
                            (try simp only [Act.put, List.setIfInBounds_toArray, List.set_cons_zero, List.set_cons_succ])
                            refine h_take (v := ?_) 4 (some 84) rfl rfl (by kernel_rfl) (by kernel_rfl) (by kernel_rfl) (fun _ _ _ h => h) (by rfl) hS (fun wS hSw => ?_) #[true, true, true, true, true, false, false, false] rfl ?_; rotate_left
                            · clear hSw; go_simp; first | done | with_reducible rfl
                            (try simp only [Act.put, List.setIfInBounds_toArray, List.set_cons_zero, List.set_cons_succ])
                            refine h_take (v := ?_) 5 (some 85) rfl rfl (by kernel_rfl) (by kernel_rfl) (by kernel_rfl) (fun _ _ _ h => h) (by rfl) hS (fun wS hSw => ?_) #[true, true, true, true, true, true, false, false] rfl ?_; rotate_left
                            · have hc := cells_of hSw.2; go_simp; first | done | with_reducible rfl
                            (try simp only [Act.put, List.setIfInBounds_toArray, List.set_cons_zero, List.set_cons_succ])
                            refine h_take (v := ?_) 6 (some 86) rfl rfl (by kernel_rfl) (by kernel_rfl) (by kernel_rfl) (fun _ _ _ h => h) (by rfl) hS (fun wS hSw => ?_) #[true, true, true, true, true, true, true, false] rfl ?_; rotate_left
                            · have hc := cells_of hSw.2; go_simp; first | done | with_reducible rfl
                            (try simp only [Act.put, List.setIfInBounds_toArray, List.set_cons_zero, List.set_cons_succ])
                            refine h_call 7 (some 87) (by kernel_rfl) rfl rfl (by rfl) #[true, true, true, true, true, true, true, true] rfl (by go_simp; exact ⟨rfl, rfl⟩) ?_
                            refine (rleaves_any x F R rs rc z _ (St.fn hS.1 hF) (St.row hS.1 hR) hm).mono ?_
                            rintro e wn ⟨rfl, hbn⟩
                            refine ⟨_, rfl, ?_, ?_⟩
                            · exact ⟨St.next hS.1 hbn, hS.2.trans (hbn.mono hS.2.size)⟩
                            have hS : _ ∧ _ := ⟨St.next hS.1 hbn, hS.2.trans (hbn.mono hS.2.size)⟩
                            (try simp only [Act.put, List.setIfInBounds_toArray, List.set_cons_zero, List.set_cons_succ, Hb.out])
                            refine wpAnyH_done (by kernel_rfl) ?_ _
                            have st := hS.1
                            have hbq := hbq.stay hS.2
                            clear hS
                            go_wp2
                            go_ret
                            exact ⟨ret_int (K4.out HN.out HL.out (Hyes.out Hb.out)).symm, st.hb⟩
                          · have Hb := Lib.hid hb
                            clear hb
                            go_wp2_with fail
                            have hS : St w wr.drew w.heap.size x F ∧ Below wr.heap.size wr wr.drew := ⟨st.drew, (Below.refl _ _).drew⟩
                            refine h_begin (S := fun w' => St w w' w.heap.size x F ∧ Below wr.heap.size wr w') 8 #[false, false, false, false, false, false, false, false] rfl rfl ?_
                            refine h_take (v := ?_) 0 (some 80) rfl rfl (by kernel_rfl) (by kernel_rfl) (by kernel_rfl) (fun _ _ _ h => h) (by rfl) hS (fun wS hSw => ?_) #[true, false, false, false, false, false, false, false] rfl ?_; rotate_left
                            · refine run_ld30 _ (.tmp 3) ?_ ?_ hSw.1.bx <;> rfl
                            (try simp only [Act.put, List.setIfInBounds_toArray, List.set_cons_zero, List.set_cons_succ])
                            refine h_take (v := ?_) 1 (some 81) rfl rfl (by kernel_rfl) (by kernel_rfl) (by kernel_rfl) (fun _ _ _ h => h) (by rfl) hS (fun wS hSw => ?_) #[true, true, false, false, false, false, false, false] rfl ?_; rotate_left
                            · clear hSw; go_simp; first | done | with_reducible rfl
                            (try simp only [Act.put, List.setIfInBounds_toArray, List.set_cons_zero, List.set_cons_succ])
                            refine h_take (v := ?_) 2 (some 82) rfl rfl (by kernel_rfl) (by kernel_rfl) (by kernel_rfl) (fun _ _ _ h => h) (by rfl) hS (fun wS hSw => ?_) #[true, true, true, false, false, false, false, false] rfl ?_; rotate_left
                            · clear hSw; go_simp; first | done | with_reducible rfl
                            (try simp only [Act.put, List.setIfInBounds_toArray, List.set_cons_zero, List.set_cons_succ])
                            refine h_take (v := ?_) 3 (some 83) rfl rfl (by kernel_rfl) (by kernel_rfl) (by kernel_rfl) (fun _ _ _ h => h) (by rfl) hS (fun wS hSw => ?_) #[true, true, true, true, false, false, false, false] rfl ?_; rotate_left
                            · have hc := cells_of hSw.2; go_simp; first | done | with_reducible rfl
                            (try simp only [Act.put, List.setIfInBounds_toArray, List.set_cons_zero, List.set_cons_succ])
                            refine h_take (v := ?_) 4 (some 84) rfl rfl (by kernel_rfl) (by kernel_rfl) (by kernel_rfl) (fun _ _ _ h => h) (by rfl) hS (fun wS hSw => ?_) #[true, true, true, true, true, false, false, false] rfl ?_; rotate_left
                            · clear hSw; go_simp; first | done | with_reducible rfl
                            (try simp only [Act.put, List.setIfInBounds_toArray, List.set_cons_zero, List.set_cons_succ])
                            refine h_take (v := ?_) 5 (some 85) rfl rfl (by kernel_rfl) (by kernel_rfl) (by kernel_rfl) (fun _ _ _ h => h) (by rfl) hS (fun wS hSw => ?_) #[true, true, true, true, true, true, false, false] rfl ?_; rotate_left
                            · have hc := cells_of hSw.2; go_simp; first | done | with_reducible rfl
                            (try simp only [Act.put, List.setIfInBounds_toArray, List.set_cons_zero, List.set_cons_succ])
                            refine h_take (v := ?_) 6 (some 86) rfl rfl (by kernel_rfl) (by kernel_rfl) (by kernel_rfl) (fun _ _ _ h => h) (by rfl) hS (fun wS hSw => ?_) #[true, true, true, true, true, true, true, false] rfl ?_; rotate_left
                            · have hc := cells_of hSw.2; go_simp; first | done | with_reducible rfl
                            (try simp only [Act.put, List.setIfInBounds_toArray, List.set_cons_zero, List.set_cons_succ])
                            refine h_call 7 (some 87) (by kernel_rfl) rfl rfl (by rfl) #[true, true, true, true, true, true, true, true] rfl (by go_simp; exact ⟨rfl, rfl⟩) ?_
                            refine (rleaves_any x F R rs rc z _ (St.fn hS.1 hF) (St.row hS.1 hR) hm).mono ?_
                            rintro e wn ⟨rfl, hbn⟩
                            refine ⟨_, rfl, ?_, ?_⟩
                            · exact ⟨St.next hS.1 hbn, hS.2.trans (hbn.mono hS.2.size)⟩
                            have hS : _ ∧ _ := ⟨St.next hS.1 hbn, hS.2.trans (hbn.mono hS.2.size)⟩
                            (try simp only [Act.put, List.setIfInBounds_toArray, List.set_cons_zero, List.set_cons_succ, Hb.out])
                            refine wpAnyH_done (by kernel_rfl) ?_ _
                            have st := hS.1
                            have hbq := hbq.stay hS.2
                            clear hS
                            go_wp2
                            go_roundg (pl.length - (k + 1))
                            case measure => omega
                            case rel => exact ⟨k + 1, by omega, rfl, by go_num, Lib.hid (by rw [Hs.out, HD.out, Hb.out]; rfl), hbq, st⟩
                        · have hd : pl.any (fun p => F.leaves rs p) = false := by
                            have := HD.out
                            rwa [List.take_of_length_le (by omega)] at this
                          have HM := Lib.hid hd
                          clear hd HD
                          go_wp2
                          go_ret
                          exact ⟨ret_int (K5.out HN.out HL.out HM.out).symm, st.hb⟩
              · have H : Hid (holdsF F rs a j pl = _) := Lib.hid (by unfold holdsF; rw [ha, hp, hj1, hpj, hW]; try rfl)
                go_enter Try.func23, Try.ntmps23
                go_wp2_with (first | go_skip | ((with_reducible refine at_box 30 rfl ?_); refine bx30 _ rfl x F rfl rfl ?_; intro w1 hbx hb1 hs1; have st := St.new hbx hb1; have ho := st.old; have h14 := st.c14; have h15 := st.c15; clear hbx hb1 hs1) | ((with_reducible refine at_box 44 rfl ?_); refine wp_box 44 _ rfl #[.int .i64 a, .int .i64 j, .slice A pl.length ac] rfl rfl ?_; intro w2 hbq hb2 hs2; have st := St.next (by assumption) hb2; have ho := st.old; have h14 := st.c14; have h15 := st.c15; clear hb2; have q0 := (hbq.cell 0).trans rfl; have q1 := (hbq.cell 1).trans rfl; have q2 := (hbq.cell 2).trans rfl; have hql := hbq.lt; have h14 := st.c14) | ((with_reducible refine at_load 30 rfl ?_); refine ld30 _ rfl _ rfl x F (St.bx (by assumption)) rfl ?_) | ((with_reducible refine at_load 44 rfl ?_); refine wp_loadbox 44 _ rfl _ rfl _ hbq _ Try.underlying44 rfl (by kernel_rfl) rfl ?_) | (go_at_call 24; refine (Hah.out _ (St.fn (by assumption) hF)).mono ?_; rintro e wn ⟨rfl, hbn⟩; have st := St.next (by assumption) hbn; have hbq := Bk.stay hbq hbn; have q0 := (hbq.cell 0).trans rfl; have q1 := (hbq.cell 1).trans rfl; have q2 := (hbq.cell 2).trans rfl; have hql := hbq.lt; have h14 := st.c14; clear hbn) | (go_at_call 51; refine (rwithin_any x F R A rs rc a j pl ac _ _ (St.fn (by assumption) hF) (St.row (by assumption) hR) (St.row (by assumption) hA) hm hn hl).mono ?_; rw [hW]; rintro e wn ⟨rfl, hbn⟩; have st := St.next (by assumption) hbn; have hbq := Bk.stay hbq hbn; have q0 := (hbq.cell 0).trans rfl; have q1 := (hbq.cell 1).trans rfl; have q2 := (hbq.cell 2).trans rfl; have hql := hbq.lt; have h14 := st.c14; clear hbn))
                go_ret
                exact ⟨ret_int H.out.symm, st.hb⟩
  · have H : Hid (holdsF F rs a j pl = _) := Lib.hid (by unfold holdsF; rw [ha]; try rfl)
    go_enter Try.func23, Try.ntmps23
    go_wp2_with (first | go_skip | ((with_reducible refine at_box 30 rfl ?_); refine bx30 _ rfl x F rfl rfl ?_; intro w1 hbx hb1 hs1; have st := St.new hbx hb1; have ho := st.old; have h14 := st.c14; have h15 := st.c15; clear hbx hb1 hs1) | ((with_reducible refine at_box 44 rfl ?_); refine wp_box 44 _ rfl #[.int .i64 a, .int .i64 j, .slice A pl.length ac] rfl rfl ?_; intro w2 hbq hb2 hs2; have st := St.next (by assumption) hb2; have ho := st.old; have h14 := st.c14; have h15 := st.c15; clear hb2; have q0 := (hbq.cell 0).trans rfl; have q1 := (hbq.cell 1).trans rfl; have q2 := (hbq.cell 2).trans rfl; have hql := hbq.lt; have h14 := st.c14) | ((with_reducible refine at_load 30 rfl ?_); refine ld30 _ rfl _ rfl x F (St.bx (by assumption)) rfl ?_) | ((with_reducible refine at_load 44 rfl ?_); refine wp_loadbox 44 _ rfl _ rfl _ hbq _ Try.underlying44 rfl (by kernel_rfl) rfl ?_) | (go_at_call 24; refine (Hah.out _ (St.fn (by assumption) hF)).mono ?_; rintro e wn ⟨rfl, hbn⟩; have st := St.next (by assumption) hbn; have hbq := Bk.stay hbq hbn; have q0 := (hbq.cell 0).trans rfl; have q1 := (hbq.cell 1).trans rfl; have q2 := (hbq.cell 2).trans rfl; have hql := hbq.lt; have h14 := st.c14; clear hbn))
    go_ret
    exact ⟨ret_int H.out.symm, st.hb⟩
end Go.Proofs.Ytnnhlnefhndpdaa
