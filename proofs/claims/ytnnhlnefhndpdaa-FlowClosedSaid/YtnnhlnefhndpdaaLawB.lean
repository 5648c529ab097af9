/- The walk of FlowClosed: whatever comes in, it returns true and only makes memory. -/
import Derived.Test.YtnnhlnefhndpdaaAwake
import Derived.Test.YtnnhlnefhndpdaaWalkE
import Derived.Test.YtnnhlnefhndpdaaWalkH
import Derived.Test.YtnnhlnefhndpdaaPlain5
import Derived.Test.YtnnhlnefhndpdaaRegion
import Derived.Deep.DeepCutAuto
namespace Go.Proofs.Ytnnhlnefhndpdaa
open Go.RowKit
set_option linter.unusedSimpArgs false
set_option linter.unusedVariables false

set_option maxHeartbeats 8000000 in
set_option maxRecDepth 100000 in
theorem flowClosed_walk (x : FX) (F : Fn) (R A : Option Addr) (rs : List Bool) (rc : Nat) (from_ : List Int) (ac : Nat) (stop : Int) (w : World) (hF : FnAt w x F) (hR : Row w 0 R (boolsV rs)) (hA : Row w 0 A (intsV from_)) :
    Calls Try.prog 4 #[x.val F, .agg #[.slice R rs.length rc, .slice A from_.length ac, .int .i64 stop]] w fun e w' => e = .returned (.bool true) ∧ Below w.heap.size w w' := by
  by_cases hfew : (decide (F.code.length ≤ 60) && decide (F.hs.length ≤ 60) && decide (rs.length ≤ 1000)) = true
  · have hb3 : F.code.length ≤ 60 ∧ F.hs.length ≤ 60 ∧ rs.length ≤ 1000 := by simpa [and_assoc] using hfew
    obtain ⟨hb0, hb1, hb2⟩ := hb3
    have Hfew := Lib.hid hfew
    clear hfew
    by_cases hl : from_.length ≤ 200
    · go_enter Try.func4, Try.ntmps4
      go_wp2_with (first | go_skip | ((with_reducible refine at_box 30 rfl ?_); refine bx30 _ rfl x F rfl rfl ?_; intro w1 hbx hb1 hs1; have st := St.new hbx hb1; have ho := st.old; have h14 := st.c14; have h15 := st.c15; clear hbx hb1 hs1) | ((with_reducible refine at_box 34 rfl ?_); refine wp_box 34 _ rfl #[.slice R rs.length rc, .slice A from_.length ac, .int .i64 stop] rfl rfl ?_; intro w2 hbq hb2 hs2; have st := St.next (by assumption) hb2; have ho := st.old; have h14 := st.c14; have h15 := st.c15; clear hb2) | ((with_reducible refine at_load 30 rfl ?_); refine ld30 _ rfl _ rfl x F (St.bx (by assumption)) rfl ?_) | (go_at_call 13; refine (awake15 _).mono ?_; rintro e wa ⟨rfl, hba⟩; have st := St.next (by assumption) hba; have hbq := Bk.stay hbq hba; have q0 := (hbq.cell 0).trans rfl; have q1 := (hbq.cell 1).trans rfl; clear hba) | (go_at_call 14; refine (few15 x F R rs.length rc _ true Hfew.out.symm).mono ?_; rintro e wf ⟨rfl, hbf⟩; have st := St.next (by assumption) hbf; have hbq := Bk.stay hbq hbf; have q0 := (hbq.cell 0).trans rfl; have q1 := (hbq.cell 1).trans rfl; have q2 := (hbq.cell 2).trans rfl; have hql := hbq.lt; clear hbf) | (go_at_call 16; refine (reach_any x F R A rs rc from_ ac stop _ (St.fn (by assumption) hF) (St.row (by assumption) hR) (St.row (by assumption) hA) (by omega) (by omega) (by omega)).mono ?_; rintro e wl ⟨A1, c1, rfl, hown1, hbl⟩; have st := St.next (by assumption) hbl; have hbq := Bk.stay hbq hbl; clear hbl))
      have hown1 := hown1.lower (Nat.zero_le _)
      have hLrise := Lib.hid (reachL_rising F rs from_ stop)
      have hLlen := reachL_length F rs from_ stop
      have hLfrom := Lib.hid (fun z h1 h2 h3 => @reachL_from F rs from_ stop z h1 h2 h3)
      have hLne := Lib.hid (fun z h => @reachL_ne F rs from_ stop z h)
      have hLway := Lib.hid (fun y z h1 h2 h3 => @reachL_way F rs from_ stop y z h1 h2 h3)
      have hLcome := Lib.hid (fun z h => @come_all F rs from_ stop z h)
      generalize reachL F rs from_ stop = L at *
      go_loopg [6] from_.length (fun g s wr => ∃ (k : Nat), k ≤ from_.length ∧ g = from_.length - k ∧ s = .int .i64 k ∧ Own wr 0 A1 c1 L ∧ Bk wr w1.heap.size 34 #[.slice R rs.length rc, .slice A from_.length ac, .int .i64 stop] ∧ St w wr w.heap.size x F)
      case atStart => exact ⟨0, Nat.zero_le _, rfl, rfl, hown1, hbq, st⟩
      case round =>
        clear hown1 hbq st q0 q1 q2 hql
        obtain ⟨k, hk, rfl, rfl, hown1, hbq, st⟩ := hrel
        have ho := st.old
        have h14 := st.c14
        have q0 := (hbq.cell 0).trans rfl; have q1 := (hbq.cell 1).trans rfl; have q2 := (hbq.cell 2).trans rfl; have hql := hbq.lt; 
        by_cases hlt : k < from_.length
        · obtain ⟨B, off, hA', -, hB, h0⟩ := hA.int_at hlt
          have hix := ix32 hA' hlt ac
          clear hA'
          have hBr : B < wr.heap.size := by have := st.hb.size; omega
          have hxl := st.bx.lt
          have hzf := Lib.hid (getD_mem hlt)
          have hfind := Lib.hid (hLfrom.out _ (getD_mem hlt))
          generalize from_.getD k 0 = z at *
          by_cases hz0 : 0 ≤ z
          · by_cases hz1 : z < (F.code.length : Int)
            · by_cases hz2 : (z != stop) = true
              · have hin : z ∈ L := hfind.out (Fn.place_iff.2 ⟨hz0, hz1⟩) (by simpa using hz2)
                go_wp2_with fail
                have hS : St w wr.drew w.heap.size x F ∧ Below wr.heap.size wr wr.drew := ⟨st.drew, (Below.refl _ _).drew⟩
                refine h_begin (S := fun w' => St w w' w.heap.size x F ∧ Below wr.heap.size wr w') 37 #[false, false, false, false, false, false, false, false, false, false, false, false, false, false, false, false, false, false, false, false, false, false, false, false, false, false, false, false, false, false, false, false, false, false, false, false, false] rfl rfl ?_
                refine h_take (v := ?_) 0 (some 43) rfl rfl (by kernel_rfl) (by kernel_rfl) (by kernel_rfl) (fun _ _ _ h => h) (by rfl) hS (fun wS hSw => ?_) #[true, false, false, false, false, false, false, false, false, false, false, false, false, false, false, false, false, false, false, false, false, false, false, false, false, false, false, false, false, false, false, false, false, false, false, false, false] rfl ?_; rotate_left
                · clear hSw; go_simp; first | done | with_reducible rfl
                (try simp only [Act.put, List.setIfInBounds_toArray, List.set_cons_zero, List.set_cons_succ])
                refine h_take (v := ?_) 1 (some 44) rfl rfl (by kernel_rfl) (by kernel_rfl) (by kernel_rfl) (fun _ _ _ h => h) (by rfl) hS (fun wS hSw => ?_) #[true, true, false, false, false, false, false, false, false, false, false, false, false, false, false, false, false, false, false, false, false, false, false, false, false, false, false, false, false, false, false, false, false, false, false, false, false] rfl ?_; rotate_left
                · have hc := cells_of hSw.2; go_simp; first | done | with_reducible rfl
                (try simp only [Act.put, List.setIfInBounds_toArray, List.set_cons_zero, List.set_cons_succ])
                refine h_take (v := ?_) 2 (some 45) rfl rfl (by kernel_rfl) (by kernel_rfl) (by kernel_rfl) (fun _ _ _ h => h) (by rfl) hS (fun wS hSw => ?_) #[true, true, true, false, false, false, false, false, false, false, false, false, false, false, false, false, false, false, false, false, false, false, false, false, false, false, false, false, false, false, false, false, false, false, false, false, false] rfl ?_; rotate_left
                · clear hSw; go_simp; first | done | with_reducible rfl
                (try simp only [Act.put, List.setIfInBounds_toArray, List.set_cons_zero, List.set_cons_succ])
                refine h_take (v := ?_) 3 (some 46) rfl rfl (by kernel_rfl) (by kernel_rfl) (by kernel_rfl) (fun _ _ _ h => h) (by rfl) hS (fun wS hSw => ?_) #[true, true, true, true, false, false, false, false, false, false, false, false, false, false, false, false, false, false, false, false, false, false, false, false, false, false, false, false, false, false, false, false, false, false, false, false, false] rfl ?_; rotate_left
                · have hc := cells_of hSw.2; go_simp; first | done | with_reducible rfl
                (try simp only [Act.put, List.setIfInBounds_toArray, List.set_cons_zero, List.set_cons_succ])
                refine h_take (v := ?_) 4 (some 47) rfl rfl (by kernel_rfl) (by kernel_rfl) (by kernel_rfl) (fun _ _ _ h => h) (by rfl) hS (fun wS hSw => ?_) #[true, true, true, true, true, false, false, false, false, false, false, false, false, false, false, false, false, false, false, false, false, false, false, false, false, false, false, false, false, false, false, false, false, false, false, false, false] rfl ?_; rotate_left
                · have hc := cells_of hSw.2; go_simp; first | done | with_reducible rfl
                (try simp only [Act.put, List.setIfInBounds_toArray, List.set_cons_zero, List.set_cons_succ])
                refine h_take (v := ?_) 5 (some 48) rfl rfl (by kernel_rfl) (by kernel_rfl) (by kernel_rfl) (fun _ _ _ h => h) (by rfl) hS (fun wS hSw => ?_) #[true, true, true, true, true, true, false, false, false, false, false, false, false, false, false, false, false, false, false, false, false, false, false, false, false, false, false, false, false, false, false, false, false, false, false, false, false] rfl ?_; rotate_left
                · clear hSw; go_simp; first | done | with_reducible rfl
                (try simp only [Act.put, List.setIfInBounds_toArray, List.set_cons_zero, List.set_cons_succ])
                refine h_take (v := ?_) 6 (some 49) rfl rfl (by kernel_rfl) (by kernel_rfl) (by kernel_rfl) (fun _ _ _ h => h) (by rfl) hS (fun wS hSw => ?_) #[true, true, true, true, true, true, true, false, false, false, false, false, false, false, false, false, false, false, false, false, false, false, false, false, false, false, false, false, false, false, false, false, false, false, false, false, false] rfl ?_; rotate_left
                · clear hSw; go_simp; first | done | with_reducible rfl
                (try simp only [Act.put, List.setIfInBounds_toArray, List.set_cons_zero, List.set_cons_succ])
                refine h_take (v := ?_) 7 (some 50) rfl rfl (by kernel_rfl) (by kernel_rfl) (by kernel_rfl) (fun _ _ _ h => h) (by rfl) hS (fun wS hSw => ?_) #[true, true, true, true, true, true, true, true, false, false, false, false, false, false, false, false, false, false, false, false, false, false, false, false, false, false, false, false, false, false, false, false, false, false, false, false, false] rfl ?_; rotate_left
                · clear hSw; go_simp; first | done | with_reducible rfl
                (try simp only [Act.put, List.setIfInBounds_toArray, List.set_cons_zero, List.set_cons_succ])
                refine h_take (v := ?_) 8 (some 51) rfl rfl (by kernel_rfl) (by kernel_rfl) (by kernel_rfl) (fun _ _ _ h => h) (by rfl) hS (fun wS hSw => ?_) #[true, true, true, true, true, true, true, true, true, false, false, false, false, false, false, false, false, false, false, false, false, false, false, false, false, false, false, false, false, false, false, false, false, false, false, false, false] rfl ?_; rotate_left
                · have hc := cells_of hSw.2; go_simp; first | done | with_reducible rfl
                (try simp only [Act.put, List.setIfInBounds_toArray, List.set_cons_zero, List.set_cons_succ])
                refine h_take (v := ?_) 9 (some 52) rfl rfl (by kernel_rfl) (by kernel_rfl) (by kernel_rfl) (fun _ _ _ h => h) (by rfl) hS (fun wS hSw => ?_) #[true, true, true, true, true, true, true, true, true, true, false, false, false, false, false, false, false, false, false, false, false, false, false, false, false, false, false, false, false, false, false, false, false, false, false, false, false] rfl ?_; rotate_left
                · clear hSw; go_simp; first | done | with_reducible rfl
                (try simp only [Act.put, List.setIfInBounds_toArray, List.set_cons_zero, List.set_cons_succ])
                refine h_take (v := ?_) 10 (some 53) rfl rfl (by kernel_rfl) (by kernel_rfl) (by kernel_rfl) (fun _ _ _ h => h) (by rfl) hS (fun wS hSw => ?_) #[true, true, true, true, true, true, true, true, true, true, true, false, false, false, false, false, false, false, false, false, false, false, false, false, false, false, false, false, false, false, false, false, false, false, false, false, false] rfl ?_; rotate_left
                · have hc := cells_of hSw.2; go_simp; first | done | with_reducible rfl
                (try simp only [Act.put, List.setIfInBounds_toArray, List.set_cons_zero, List.set_cons_succ])
                refine h_take (v := ?_) 11 (some 54) rfl rfl (by kernel_rfl) (by kernel_rfl) (by kernel_rfl) (fun _ _ _ h => h) (by rfl) hS (fun wS hSw => ?_) #[true, true, true, true, true, true, true, true, true, true, true, true, false, false, false, false, false, false, false, false, false, false, false, false, false, false, false, false, false, false, false, false, false, false, false, false, false] rfl ?_; rotate_left
                · have hc := cells_of hSw.2; go_simp; first | done | with_reducible rfl
                (try simp only [Act.put, List.setIfInBounds_toArray, List.set_cons_zero, List.set_cons_succ])
                refine h_take (v := ?_) 12 (some 55) rfl rfl (by kernel_rfl) (by kernel_rfl) (by kernel_rfl) (fun _ _ _ h => h) (by rfl) hS (fun wS hSw => ?_) #[true, true, true, true, true, true, true, true, true, true, true, true, true, false, false, false, false, false, false, false, false, false, false, false, false, false, false, false, false, false, false, false, false, false, false, false, false] rfl ?_; rotate_left
                · clear hSw; go_simp; first | done | with_reducible rfl
                (try simp only [Act.put, List.setIfInBounds_toArray, List.set_cons_zero, List.set_cons_succ])
                refine h_take (v := ?_) 13 (some 56) rfl rfl (by kernel_rfl) (by kernel_rfl) (by kernel_rfl) (fun _ _ _ h => h) (by rfl) hS (fun wS hSw => ?_) #[true, true, true, true, true, true, true, true, true, true, true, true, true, true, false, false, false, false, false, false, false, false, false, false, false, false, false, false, false, false, false, false, false, false, false, false, false] rfl ?_; rotate_left
                · have hc := cells_of hSw.2; go_simp; first | done | with_reducible rfl
                (try simp only [Act.put, List.setIfInBounds_toArray, List.set_cons_zero, List.set_cons_succ])
                refine h_take (v := ?_) 14 (some 57) rfl rfl (by kernel_rfl) (by kernel_rfl) (by kernel_rfl) (fun _ _ _ h => h) (by rfl) hS (fun wS hSw => ?_) #[true, true, true, true, true, true, true, true, true, true, true, true, true, true, true, false, false, false, false, false, false, false, false, false, false, false, false, false, false, false, false, false, false, false, false, false, false] rfl ?_; rotate_left
                · clear hSw; go_simp; first | done | with_reducible rfl
                (try simp only [Act.put, List.setIfInBounds_toArray, List.set_cons_zero, List.set_cons_succ])
                refine h_take (v := ?_) 15 (some 58) rfl rfl (by kernel_rfl) (by kernel_rfl) (by kernel_rfl) (fun _ _ _ h => h) (by rfl) hS (fun wS hSw => ?_) #[true, true, true, true, true, true, true, true, true, true, true, true, true, true, true, true, false, false, false, false, false, false, false, false, false, false, false, false, false, false, false, false, false, false, false, false, false] rfl ?_; rotate_left
                · clear hSw; go_simp; first | done | with_reducible rfl
                (try simp only [Act.put, List.setIfInBounds_toArray, List.set_cons_zero, List.set_cons_succ])
                refine h_take (v := ?_) 16 (some 59) rfl rfl (by kernel_rfl) (by kernel_rfl) (by kernel_rfl) (fun _ _ _ h => h) (by rfl) hS (fun wS hSw => ?_) #[true, true, true, true, true, true, true, true, true, true, true, true, true, true, true, true, true, false, false, false, false, false, false, false, false, false, false, false, false, false, false, false, false, false, false, false, false] rfl ?_; rotate_left
                · clear hSw; go_simp; first | done | with_reducible rfl
                (try simp only [Act.put, List.setIfInBounds_toArray, List.set_cons_zero, List.set_cons_succ])
                refine h_take (v := ?_) 17 (some 60) rfl rfl (by kernel_rfl) (by kernel_rfl) (by kernel_rfl) (fun _ _ _ h => h) (by rfl) hS (fun wS hSw => ?_) #[true, true, true, true, true, true, true, true, true, true, true, true, true, true, true, true, true, true, false, false, false, false, false, false, false, false, false, false, false, false, false, false, false, false, false, false, false] rfl ?_; rotate_left
                · clear hSw; go_simp; first | done | with_reducible rfl
                (try simp only [Act.put, List.setIfInBounds_toArray, List.set_cons_zero, List.set_cons_succ])
                refine h_take (v := ?_) 18 (some 61) rfl rfl (by kernel_rfl) (by kernel_rfl) (by kernel_rfl) (fun _ _ _ h => h) (by rfl) hS (fun wS hSw => ?_) #[true, true, true, true, true, true, true, true, true, true, true, true, true, true, true, true, true, true, true, false, false, false, false, false, false, false, false, false, false, false, false, false, false, false, false, false, false] rfl ?_; rotate_left
                · clear hSw; go_simp; first | done | with_reducible rfl
                (try simp only [Act.put, List.setIfInBounds_toArray, List.set_cons_zero, List.set_cons_succ])
                refine h_take (v := ?_) 19 (some 62) rfl rfl (by kernel_rfl) (by kernel_rfl) (by kernel_rfl) (fun _ _ _ h => h) (by rfl) hS (fun wS hSw => ?_) #[true, true, true, true, true, true, true, true, true, true, true, true, true, true, true, true, true, true, true, true, false, false, false, false, false, false, false, false, false, false, false, false, false, false, false, false, false] rfl ?_; rotate_left
                · have hc := cells_of hSw.2; go_simp; first | done | with_reducible rfl
                (try simp only [Act.put, List.setIfInBounds_toArray, List.set_cons_zero, List.set_cons_succ])
                refine h_take (v := ?_) 20 (some 63) rfl rfl (by kernel_rfl) (by kernel_rfl) (by kernel_rfl) (fun _ _ _ h => h) (by rfl) hS (fun wS hSw => ?_) #[true, true, true, true, true, true, true, true, true, true, true, true, true, true, true, true, true, true, true, true, true, false, false, false, false, false, false, false, false, false, false, false, false, false, false, false, false] rfl ?_; rotate_left
                · clear hSw; go_simp; first | done | with_reducible rfl
                (try simp only [Act.put, List.setIfInBounds_toArray, List.set_cons_zero, List.set_cons_succ])
                refine h_take (v := ?_) 21 (some 64) rfl rfl (by kernel_rfl) (by kernel_rfl) (by kernel_rfl) (fun _ _ _ h => h) (by rfl) hS (fun wS hSw => ?_) #[true, true, true, true, true, true, true, true, true, true, true, true, true, true, true, true, true, true, true, true, true, true, false, false, false, false, false, false, false, false, false, false, false, false, false, false, false] rfl ?_; rotate_left
                · have hc := cells_of hSw.2; go_simp; first | done | with_reducible rfl
                (try simp only [Act.put, List.setIfInBounds_toArray, List.set_cons_zero, List.set_cons_succ])
                refine h_take (v := ?_) 22 (some 65) rfl rfl (by kernel_rfl) (by kernel_rfl) (by kernel_rfl) (fun _ _ _ h => h) (by rfl) hS (fun wS hSw => ?_) #[true, true, true, true, true, true, true, true, true, true, true, true, true, true, true, true, true, true, true, true, true, true, true, false, false, false, false, false, false, false, false, false, false, false, false, false, false] rfl ?_; rotate_left
                · have hc := cells_of hSw.2; go_simp; first | done | with_reducible rfl
                (try simp only [Act.put, List.setIfInBounds_toArray, List.set_cons_zero, List.set_cons_succ])
                refine h_take (v := ?_) 23 (some 66) rfl rfl (by kernel_rfl) (by kernel_rfl) (by kernel_rfl) (fun _ _ _ h => h) (by rfl) hS (fun wS hSw => ?_) #[true, true, true, true, true, true, true, true, true, true, true, true, true, true, true, true, true, true, true, true, true, true, true, true, false, false, false, false, false, false, false, false, false, false, false, false, false] rfl ?_; rotate_left
                · clear hSw; go_simp; first | done | with_reducible rfl
                (try simp only [Act.put, List.setIfInBounds_toArray, List.set_cons_zero, List.set_cons_succ])
                refine h_take (v := ?_) 24 (some 67) rfl rfl (by kernel_rfl) (by kernel_rfl) (by kernel_rfl) (fun _ _ _ h => h) (by rfl) hS (fun wS hSw => ?_) #[true, true, true, true, true, true, true, true, true, true, true, true, true, true, true, true, true, true, true, true, true, true, true, true, true, false, false, false, false, false, false, false, false, false, false, false, false] rfl ?_; rotate_left
                · have hc := cells_of hSw.2; go_simp; first | done | with_reducible rfl
                (try simp only [Act.put, List.setIfInBounds_toArray, List.set_cons_zero, List.set_cons_succ])
                refine h_take (v := ?_) 25 (some 68) rfl rfl (by kernel_rfl) (by kernel_rfl) (by kernel_rfl) (fun _ _ _ h => h) (by rfl) hS (fun wS hSw => ?_) #[true, true, true, true, true, true, true, true, true, true, true, true, true, true, true, true, true, true, true, true, true, true, true, true, true, true, false, false, false, false, false, false, false, false, false, false, false] rfl ?_; rotate_left
                · clear hSw; go_simp; first | done | with_reducible rfl
                (try simp only [Act.put, List.setIfInBounds_toArray, List.set_cons_zero, List.set_cons_succ])
                refine h_take (v := ?_) 26 (some 69) rfl rfl (by kernel_rfl) (by kernel_rfl) (by kernel_rfl) (fun _ _ _ h => h) (by rfl) hS (fun wS hSw => ?_) #[true, true, true, true, true, true, true, true, true, true, true, true, true, true, true, true, true, true, true, true, true, true, true, true, true, true, true, false, false, false, false, false, false, false, false, false, false] rfl ?_; rotate_left
                · clear hSw; go_simp; first | done | with_reducible rfl
                (try simp only [Act.put, List.setIfInBounds_toArray, List.set_cons_zero, List.set_cons_succ])
                refine h_take (v := ?_) 27 (some 70) rfl rfl (by kernel_rfl) (by kernel_rfl) (by kernel_rfl) (fun _ _ _ h => h) (by rfl) hS (fun wS hSw => ?_) #[true, true, true, true, true, true, true, true, true, true, true, true, true, true, true, true, true, true, true, true, true, true, true, true, true, true, true, true, false, false, false, false, false, false, false, false, false] rfl ?_; rotate_left
                · clear hSw; go_simp; first | done | with_reducible rfl
                (try simp only [Act.put, List.setIfInBounds_toArray, List.set_cons_zero, List.set_cons_succ])
                refine h_take (v := ?_) 28 (some 71) rfl rfl (by kernel_rfl) (by kernel_rfl) (by kernel_rfl) (fun _ _ _ h => h) (by rfl) hS (fun wS hSw => ?_) #[true, true, true, true, true, true, true, true, true, true, true, true, true, true, true, true, true, true, true, true, true, true, true, true, true, true, true, true, true, false, false, false, false, false, false, false, false] rfl ?_; rotate_left
                · clear hSw; go_simp; first | done | with_reducible rfl
                (try simp only [Act.put, List.setIfInBounds_toArray, List.set_cons_zero, List.set_cons_succ])
                refine h_take (v := ?_) 29 (some 72) rfl rfl (by kernel_rfl) (by kernel_rfl) (by kernel_rfl) (fun _ _ _ h => h) (by rfl) hS (fun wS hSw => ?_) #[true, true, true, true, true, true, true, true, true, true, true, true, true, true, true, true, true, true, true, true, true, true, true, true, true, true, true, true, true, true, false, false, false, false, false, false, false] rfl ?_; rotate_left
                · clear hSw; go_simp; first | done | with_reducible rfl
                (try simp only [Act.put, List.setIfInBounds_toArray, List.set_cons_zero, List.set_cons_succ])
                refine h_take (v := ?_) 30 (some 73) rfl rfl (by kernel_rfl) (by kernel_rfl) (by kernel_rfl) (fun _ _ _ h => h) (by rfl) hS (fun wS hSw => ?_) #[true, true, true, true, true, true, true, true, true, true, true, true, true, true, true, true, true, true, true, true, true, true, true, true, true, true, true, true, true, true, true, false, false, false, false, false, false] rfl ?_; rotate_left
                · have hc := cells_of hSw.2; go_simp; first | done | with_reducible rfl
                (try simp only [Act.put, List.setIfInBounds_toArray, List.set_cons_zero, List.set_cons_succ])
                refine h_take (v := ?_) 31 (some 74) rfl rfl (by kernel_rfl) (by kernel_rfl) (by kernel_rfl) (fun _ _ _ h => h) (by rfl) hS (fun wS hSw => ?_) #[true, true, true, true, true, true, true, true, true, true, true, true, true, true, true, true, true, true, true, true, true, true, true, true, true, true, true, true, true, true, true, true, false, false, false, false, false] rfl ?_; rotate_left
                · clear hSw; go_simp; first | done | with_reducible rfl
                (try simp only [Act.put, List.setIfInBounds_toArray, List.set_cons_zero, List.set_cons_succ])
                refine h_take (v := ?_) 32 (some 75) rfl rfl (by kernel_rfl) (by kernel_rfl) (by kernel_rfl) (fun _ _ _ h => h) (by rfl) hS (fun wS hSw => ?_) #[true, true, true, true, true, true, true, true, true, true, true, true, true, true, true, true, true, true, true, true, true, true, true, true, true, true, true, true, true, true, true, true, true, false, false, false, false] rfl ?_; rotate_left
                · have hc := cells_of hSw.2; go_simp; first | done | with_reducible rfl
                (try simp only [Act.put, List.setIfInBounds_toArray, List.set_cons_zero, List.set_cons_succ])
                refine h_take (v := ?_) 33 (some 76) rfl rfl (by kernel_rfl) (by kernel_rfl) (by kernel_rfl) (fun _ _ _ h => h) (by rfl) hS (fun wS hSw => ?_) #[true, true, true, true, true, true, true, true, true, true, true, true, true, true, true, true, true, true, true, true, true, true, true, true, true, true, true, true, true, true, true, true, true, true, false, false, false] rfl ?_; rotate_left
                · have hc := cells_of hSw.2; go_simp; first | done | with_reducible rfl
                (try simp only [Act.put, List.setIfInBounds_toArray, List.set_cons_zero, List.set_cons_succ])
                refine h_call 34 (some 77) (by kernel_rfl) rfl rfl (by rfl) #[true, true, true, true, true, true, true, true, true, true, true, true, true, true, true, true, true, true, true, true, true, true, true, true, true, true, true, true, true, true, true, true, true, true, true, false, false] rfl (by go_simp; exact ⟨rfl, rfl⟩) ?_
                refine (in_any A1 L c1 _ _ (Row.lower (Own.row (Own.stay hown1 hS.2)) (Nat.zero_le _)) (by omega)).mono ?_
                rintro e wn ⟨rfl, hbn⟩
                refine ⟨_, rfl, ?_, ?_⟩
                · exact ⟨St.next hS.1 hbn, hS.2.trans (hbn.mono hS.2.size)⟩
                have hS : _ ∧ _ := ⟨St.next hS.1 hbn, hS.2.trans (hbn.mono hS.2.size)⟩
                (try simp only [Act.put, List.setIfInBounds_toArray, List.set_cons_zero, List.set_cons_succ, hin])
                refine h_take (v := ?_) 35 (some 78) rfl rfl (by kernel_rfl) (by kernel_rfl) (by kernel_rfl) (fun _ _ _ h => h) (by rfl) hS (fun wS hSw => ?_) #[true, true, true, true, true, true, true, true, true, true, true, true, true, true, true, true, true, true, true, true, true, true, true, true, true, true, true, true, true, true, true, true, true, true, true, true, false] rfl ?_; rotate_left
                · clear hSw; go_simp; first | done | with_reducible rfl
                (try simp only [Act.put, List.setIfInBounds_toArray, List.set_cons_zero, List.set_cons_succ])
                refine h_take (v := ?_) 36 (some 79) rfl rfl (by kernel_rfl) (by kernel_rfl) (by kernel_rfl) (fun _ _ _ h => h) (by rfl) hS (fun wS hSw => ?_) #[true, true, true, true, true, true, true, true, true, true, true, true, true, true, true, true, true, true, true, true, true, true, true, true, true, true, true, true, true, true, true, true, true, true, true, true, true] rfl ?_; rotate_left
                · clear hSw; go_simp; first | done | with_reducible rfl
                (try simp only [Act.put, List.setIfInBounds_toArray, List.set_cons_zero, List.set_cons_succ])
                refine wpAnyH_done (by kernel_rfl) ?_ _
                have st := hS.1
                have hbq := hbq.stay hS.2
                have hown1 := hown1.stay hS.2
                clear hS
                go_wp2
                go_roundg (from_.length - (k + 1))
                case measure => omega
                case rel => exact ⟨k + 1, by omega, rfl, by go_num, hown1, hbq, st⟩
              · have hz2 : (z != stop) = false := by simpa using hz2
                go_wp2_with fail
                have hS : St w wr.drew w.heap.size x F ∧ Below wr.heap.size wr wr.drew := ⟨st.drew, (Below.refl _ _).drew⟩
                refine h_begin (S := fun w' => St w w' w.heap.size x F ∧ Below wr.heap.size wr w') 37 #[false, false, false, false, false, false, false, false, false, false, false, false, false, false, false, false, false, false, false, false, false, false, false, false, false, false, false, false, false, false, false, false, false, false, false, false, false] rfl rfl ?_
                refine h_take (v := ?_) 0 (some 43) rfl rfl (by kernel_rfl) (by kernel_rfl) (by kernel_rfl) (fun _ _ _ h => h) (by rfl) hS (fun wS hSw => ?_) #[true, false, false, false, false, false, false, false, false, false, false, false, false, false, false, false, false, false, false, false, false, false, false, false, false, false, false, false, false, false, false, false, false, false, false, false, false] rfl ?_; rotate_left
                · clear hSw; go_simp; first | done | with_reducible rfl
                (try simp only [Act.put, List.setIfInBounds_toArray, List.set_cons_zero, List.set_cons_succ])
                refine h_take (v := ?_) 1 (some 44) rfl rfl (by kernel_rfl) (by kernel_rfl) (by kernel_rfl) (fun _ _ _ h => h) (by rfl) hS (fun wS hSw => ?_) #[true, true, false, false, false, false, false, false, false, false, false, false, false, false, false, false, false, false, false, false, false, false, false, false, false, false, false, false, false, false, false, false, false, false, false, false, false] rfl ?_; rotate_left
                · have hc := cells_of hSw.2; go_simp; first | done | with_reducible rfl
                (try simp only [Act.put, List.setIfInBounds_toArray, List.set_cons_zero, List.set_cons_succ])
                refine h_take (v := ?_) 2 (some 45) rfl rfl (by kernel_rfl) (by kernel_rfl) (by kernel_rfl) (fun _ _ _ h => h) (by rfl) hS (fun wS hSw => ?_) #[true, true, true, false, false, false, false, false, false, false, false, false, false, false, false, false, false, false, false, false, false, false, false, false, false, false, false, false, false, false, false, false, false, false, false, false, false] rfl ?_; rotate_left
                · clear hSw; go_simp; first | done | with_reducible rfl
                (try simp only [Act.put, List.setIfInBounds_toArray, List.set_cons_zero, List.set_cons_succ])
                refine h_take (v := ?_) 3 (some 46) rfl rfl (by kernel_rfl) (by kernel_rfl) (by kernel_rfl) (fun _ _ _ h => h) (by rfl) hS (fun wS hSw => ?_) #[true, true, true, true, false, false, false, false, false, false, false, false, false, false, false, false, false, false, false, false, false, false, false, false, false, false, false, false, false, false, false, false, false, false, false, false, false] rfl ?_; rotate_left
                · have hc := cells_of hSw.2; go_simp; first | done | with_reducible rfl
                (try simp only [Act.put, List.setIfInBounds_toArray, List.set_cons_zero, List.set_cons_succ])
                refine h_take (v := ?_) 4 (some 47) rfl rfl (by kernel_rfl) (by kernel_rfl) (by kernel_rfl) (fun _ _ _ h => h) (by rfl) hS (fun wS hSw => ?_) #[true, true, true, true, true, false, false, false, false, false, false, false, false, false, false, false, false, false, false, false, false, false, false, false, false, false, false, false, false, false, false, false, false, false, false, false, false] rfl ?_; rotate_left
                · have hc := cells_of hSw.2; go_simp; first | done | with_reducible rfl
                (try simp only [Act.put, List.setIfInBounds_toArray, List.set_cons_zero, List.set_cons_succ])
                refine h_take (v := ?_) 5 (some 48) rfl rfl (by kernel_rfl) (by kernel_rfl) (by kernel_rfl) (fun _ _ _ h => h) (by rfl) hS (fun wS hSw => ?_) #[true, true, true, true, true, true, false, false, false, false, false, false, false, false, false, false, false, false, false, false, false, false, false, false, false, false, false, false, false, false, false, false, false, false, false, false, false] rfl ?_; rotate_left
                · clear hSw; go_simp; first | done | with_reducible rfl
                (try simp only [Act.put, List.setIfInBounds_toArray, List.set_cons_zero, List.set_cons_succ])
                refine h_take (v := ?_) 6 (some 49) rfl rfl (by kernel_rfl) (by kernel_rfl) (by kernel_rfl) (fun _ _ _ h => h) (by rfl) hS (fun wS hSw => ?_) #[true, true, true, true, true, true, true, false, false, false, false, false, false, false, false, false, false, false, false, false, false, false, false, false, false, false, false, false, false, false, false, false, false, false, false, false, false] rfl ?_; rotate_left
                · clear hSw; go_simp; first | done | with_reducible rfl
                (try simp only [Act.put, List.setIfInBounds_toArray, List.set_cons_zero, List.set_cons_succ])
                refine h_take (v := ?_) 7 (some 50) rfl rfl (by kernel_rfl) (by kernel_rfl) (by kernel_rfl) (fun _ _ _ h => h) (by rfl) hS (fun wS hSw => ?_) #[true, true, true, true, true, true, true, true, false, false, false, false, false, false, false, false, false, false, false, false, false, false, false, false, false, false, false, false, false, false, false, false, false, false, false, false, false] rfl ?_; rotate_left
                · clear hSw; go_simp; first | done | with_reducible rfl
                (try simp only [Act.put, List.setIfInBounds_toArray, List.set_cons_zero, List.set_cons_succ])
                refine h_take (v := ?_) 8 (some 51) rfl rfl (by kernel_rfl) (by kernel_rfl) (by kernel_rfl) (fun _ _ _ h => h) (by rfl) hS (fun wS hSw => ?_) #[true, true, true, true, true, true, true, true, true, false, false, false, false, false, false, false, false, false, false, false, false, false, false, false, false, false, false, false, false, false, false, false, false, false, false, false, false] rfl ?_; rotate_left
                · have hc := cells_of hSw.2; go_simp; first | done | with_reducible rfl
                (try simp only [Act.put, List.setIfInBounds_toArray, List.set_cons_zero, List.set_cons_succ])
                refine h_take (v := ?_) 9 (some 52) rfl rfl (by kernel_rfl) (by kernel_rfl) (by kernel_rfl) (fun _ _ _ h => h) (by rfl) hS (fun wS hSw => ?_) #[true, true, true, true, true, true, true, true, true, true, false, false, false, false, false, false, false, false, false, false, false, false, false, false, false, false, false, false, false, false, false, false, false, false, false, false, false] rfl ?_; rotate_left
                · clear hSw; go_simp; first | done | with_reducible rfl
                (try simp only [Act.put, List.setIfInBounds_toArray, List.set_cons_zero, List.set_cons_succ])
                refine h_take (v := ?_) 10 (some 53) rfl rfl (by kernel_rfl) (by kernel_rfl) (by kernel_rfl) (fun _ _ _ h => h) (by rfl) hS (fun wS hSw => ?_) #[true, true, true, true, true, true, true, true, true, true, true, false, false, false, false, false, false, false, false, false, false, false, false, false, false, false, false, false, false, false, false, false, false, false, false, false, false] rfl ?_; rotate_left
                · have hc := cells_of hSw.2; go_simp; first | done | with_reducible rfl
                (try simp only [Act.put, List.setIfInBounds_toArray, List.set_cons_zero, List.set_cons_succ])
                refine h_take (v := ?_) 11 (some 54) rfl rfl (by kernel_rfl) (by kernel_rfl) (by kernel_rfl) (fun _ _ _ h => h) (by rfl) hS (fun wS hSw => ?_) #[true, true, true, true, true, true, true, true, true, true, true, true, false, false, false, false, false, false, false, false, false, false, false, false, false, false, false, false, false, false, false, false, false, false, false, false, false] rfl ?_; rotate_left
                · have hc := cells_of hSw.2; go_simp; first | done | with_reducible rfl
                (try simp only [Act.put, List.setIfInBounds_toArray, List.set_cons_zero, List.set_cons_succ])
                refine h_take (v := ?_) 12 (some 55) rfl rfl (by kernel_rfl) (by kernel_rfl) (by kernel_rfl) (fun _ _ _ h => h) (by rfl) hS (fun wS hSw => ?_) #[true, true, true, true, true, true, true, true, true, true, true, true, true, false, false, false, false, false, false, false, false, false, false, false, false, false, false, false, false, false, false, false, false, false, false, false, false] rfl ?_; rotate_left
                · clear hSw; go_simp; first | done | with_reducible rfl
                (try simp only [Act.put, List.setIfInBounds_toArray, List.set_cons_zero, List.set_cons_succ])
                refine h_take (v := ?_) 13 (some 56) rfl rfl (by kernel_rfl) (by kernel_rfl) (by kernel_rfl) (fun _ _ _ h => h) (by rfl) hS (fun wS hSw => ?_) #[true, true, true, true, true, true, true, true, true, true, true, true, true, true, false, false, false, false, false, false, false, false, false, false, false, false, false, false, false, false, false, false, false, false, false, false, false] rfl ?_; rotate_left
                · have hc := cells_of hSw.2; go_simp; first | done | with_reducible rfl
                (try simp only [Act.put, List.setIfInBounds_toArray, List.set_cons_zero, List.set_cons_succ])
                refine h_take (v := ?_) 14 (some 57) rfl rfl (by kernel_rfl) (by kernel_rfl) (by kernel_rfl) (fun _ _ _ h => h) (by rfl) hS (fun wS hSw => ?_) #[true, true, true, true, true, true, true, true, true, true, true, true, true, true, true, false, false, false, false, false, false, false, false, false, false, false, false, false, false, false, false, false, false, false, false, false, false] rfl ?_; rotate_left
                · clear hSw; go_simp; first | done | with_reducible rfl
                (try simp only [Act.put, List.setIfInBounds_toArray, List.set_cons_zero, List.set_cons_succ])
                refine h_take (v := ?_) 15 (some 58) rfl rfl (by kernel_rfl) (by kernel_rfl) (by kernel_rfl) (fun _ _ _ h => h) (by rfl) hS (fun wS hSw => ?_) #[true, true, true, true, true, true, true, true, true, true, true, true, true, true, true, true, false, false, false, false, false, false, false, false, false, false, false, false, false, false, false, false, false, false, false, false, false] rfl ?_; rotate_left
                · clear hSw; go_simp; first | done | with_reducible rfl
                (try simp only [Act.put, List.setIfInBounds_toArray, List.set_cons_zero, List.set_cons_succ])
                refine h_take (v := ?_) 16 (some 59) rfl rfl (by kernel_rfl) (by kernel_rfl) (by kernel_rfl) (fun _ _ _ h => h) (by rfl) hS (fun wS hSw => ?_) #[true, true, true, true, true, true, true, true, true, true, true, true, true, true, true, true, true, false, false, false, false, false, false, false, false, false, false, false, false, false, false, false, false, false, false, false, false] rfl ?_; rotate_left
                · clear hSw; go_simp; first | done | with_reducible rfl
                (try simp only [Act.put, List.setIfInBounds_toArray, List.set_cons_zero, List.set_cons_succ])
                refine h_take (v := ?_) 17 (some 60) rfl rfl (by kernel_rfl) (by kernel_rfl) (by kernel_rfl) (fun _ _ _ h => h) (by rfl) hS (fun wS hSw => ?_) #[true, true, true, true, true, true, true, true, true, true, true, true, true, true, true, true, true, true, false, false, false, false, false, false, false, false, false, false, false, false, false, false, false, false, false, false, false] rfl ?_; rotate_left
                · clear hSw; go_simp; first | done | with_reducible rfl
                (try simp only [Act.put, List.setIfInBounds_toArray, List.set_cons_zero, List.set_cons_succ])
                refine h_take (v := ?_) 18 (some 61) rfl rfl (by kernel_rfl) (by kernel_rfl) (by kernel_rfl) (fun _ _ _ h => h) (by rfl) hS (fun wS hSw => ?_) #[true, true, true, true, true, true, true, true, true, true, true, true, true, true, true, true, true, true, true, false, false, false, false, false, false, false, false, false, false, false, false, false, false, false, false, false, false] rfl ?_; rotate_left
                · clear hSw; go_simp; first | done | with_reducible rfl
                (try simp only [Act.put, List.setIfInBounds_toArray, List.set_cons_zero, List.set_cons_succ])
                refine h_take (v := ?_) 19 (some 62) rfl rfl (by kernel_rfl) (by kernel_rfl) (by kernel_rfl) (fun _ _ _ h => h) (by rfl) hS (fun wS hSw => ?_) #[true, true, true, true, true, true, true, true, true, true, true, true, true, true, true, true, true, true, true, true, false, false, false, false, false, false, false, false, false, false, false, false, false, false, false, false, false] rfl ?_; rotate_left
                · have hc := cells_of hSw.2; go_simp; first | done | with_reducible rfl
                (try simp only [Act.put, List.setIfInBounds_toArray, List.set_cons_zero, List.set_cons_succ])
                refine h_take (v := ?_) 20 (some 63) rfl rfl (by kernel_rfl) (by kernel_rfl) (by kernel_rfl) (fun _ _ _ h => h) (by rfl) hS (fun wS hSw => ?_) #[true, true, true, true, true, true, true, true, true, true, true, true, true, true, true, true, true, true, true, true, true, false, false, false, false, false, false, false, false, false, false, false, false, false, false, false, false] rfl ?_; rotate_left
                · clear hSw; go_simp; first | done | with_reducible rfl
                (try simp only [Act.put, List.setIfInBounds_toArray, List.set_cons_zero, List.set_cons_succ])
                refine h_take (v := ?_) 21 (some 64) rfl rfl (by kernel_rfl) (by kernel_rfl) (by kernel_rfl) (fun _ _ _ h => h) (by rfl) hS (fun wS hSw => ?_) #[true, true, true, true, true, true, true, true, true, true, true, true, true, true, true, true, true, true, true, true, true, true, false, false, false, false, false, false, false, false, false, false, false, false, false, false, false] rfl ?_; rotate_left
                · have hc := cells_of hSw.2; go_simp; first | done | with_reducible rfl
                (try simp only [Act.put, List.setIfInBounds_toArray, List.set_cons_zero, List.set_cons_succ])
                refine h_take (v := ?_) 22 (some 65) rfl rfl (by kernel_rfl) (by kernel_rfl) (by kernel_rfl) (fun _ _ _ h => h) (by rfl) hS (fun wS hSw => ?_) #[true, true, true, true, true, true, true, true, true, true, true, true, true, true, true, true, true, true, true, true, true, true, true, false, false, false, false, false, false, false, false, false, false, false, false, false, false] rfl ?_; rotate_left
                · have hc := cells_of hSw.2; go_simp; first | done | with_reducible rfl
                (try simp only [Act.put, List.setIfInBounds_toArray, List.set_cons_zero, List.set_cons_succ])
                refine h_take (v := ?_) 23 (some 66) rfl rfl (by kernel_rfl) (by kernel_rfl) (by kernel_rfl) (fun _ _ _ h => h) (by rfl) hS (fun wS hSw => ?_) #[true, true, true, true, true, true, true, true, true, true, true, true, true, true, true, true, true, true, true, true, true, true, true, true, false, false, false, false, false, false, false, false, false, false, false, false, false] rfl ?_; rotate_left
                · clear hSw; go_simp; first | done | with_reducible rfl
                (try simp only [Act.put, List.setIfInBounds_toArray, List.set_cons_zero, List.set_cons_succ])
                refine h_take (v := ?_) 24 (some 67) rfl rfl (by kernel_rfl) (by kernel_rfl) (by kernel_rfl) (fun _ _ _ h => h) (by rfl) hS (fun wS hSw => ?_) #[true, true, true, true, true, true, true, true, true, true, true, true, true, true, true, true, true, true, true, true, true, true, true, true, true, false, false, false, false, false, false, false, false, false, false, false, false] rfl ?_; rotate_left
                · have hc := cells_of hSw.2; go_simp; first | done | with_reducible rfl
                (try simp only [Act.put, List.setIfInBounds_toArray, List.set_cons_zero, List.set_cons_succ])
                refine h_take (v := ?_) 25 (some 68) rfl rfl (by kernel_rfl) (by kernel_rfl) (by kernel_rfl) (fun _ _ _ h => h) (by rfl) hS (fun wS hSw => ?_) #[true, true, true, true, true, true, true, true, true, true, true, true, true, true, true, true, true, true, true, true, true, true, true, true, true, true, false, false, false, false, false, false, false, false, false, false, false] rfl ?_; rotate_left
                · clear hSw; go_simp; first | done | with_reducible rfl
                (try simp only [Act.put, List.setIfInBounds_toArray, List.set_cons_zero, List.set_cons_succ])
                refine h_take (v := ?_) 26 (some 69) rfl rfl (by kernel_rfl) (by kernel_rfl) (by kernel_rfl) (fun _ _ _ h => h) (by rfl) hS (fun wS hSw => ?_) #[true, true, true, true, true, true, true, true, true, true, true, true, true, true, true, true, true, true, true, true, true, true, true, true, true, true, true, false, false, false, false, false, false, false, false, false, false] rfl ?_; rotate_left
                · clear hSw; go_simp; first | done | with_reducible rfl
                (try simp only [Act.put, List.setIfInBounds_toArray, List.set_cons_zero, List.set_cons_succ])
                refine h_take (v := ?_) 27 (some 70) rfl rfl (by kernel_rfl) (by kernel_rfl) (by kernel_rfl) (fun _ _ _ h => h) (by rfl) hS (fun wS hSw => ?_) #[true, true, true, true, true, true, true, true, true, true, true, true, true, true, true, true, true, true, true, true, true, true, true, true, true, true, true, true, false, false, false, false, false, false, false, false, false] rfl ?_; rotate_left
                · clear hSw; go_simp; first | done | with_reducible rfl
                (try simp only [Act.put, List.setIfInBounds_toArray, List.set_cons_zero, List.set_cons_succ])
                refine h_skip 28 (some 71) rfl rfl (by kernel_rfl) (by kernel_rfl) (by kernel_rfl) (fun _ _ _ h => h) (by rfl) hS #[true, true, true, true, true, true, true, true, true, true, true, true, true, true, true, true, true, true, true, true, true, true, true, true, true, true, true, true, true, false, false, false, false, false, false, false, false] rfl ?_
                (try simp only [Act.put, List.setIfInBounds_toArray, List.set_cons_zero, List.set_cons_succ])
                refine h_skip 29 (some 72) rfl rfl (by kernel_rfl) (by kernel_rfl) (by kernel_rfl) (fun _ _ _ h => h) (by rfl) hS #[true, true, true, true, true, true, true, true, true, true, true, true, true, true, true, true, true, true, true, true, true, true, true, true, true, true, true, true, true, true, false, false, false, false, false, false, false] rfl ?_
                (try simp only [Act.put, List.setIfInBounds_toArray, List.set_cons_zero, List.set_cons_succ])
                refine h_skip 30 (some 73) rfl rfl (by kernel_rfl) (by kernel_rfl) (by kernel_rfl) (fun _ _ _ h => h) (by rfl) hS #[true, true, true, true, true, true, true, true, true, true, true, true, true, true, true, true, true, true, true, true, true, true, true, true, true, true, true, true, true, true, true, false, false, false, false, false, false] rfl ?_
                (try simp only [Act.put, List.setIfInBounds_toArray, List.set_cons_zero, List.set_cons_succ])
                refine h_skip 31 (some 74) rfl rfl (by kernel_rfl) (by kernel_rfl) (by kernel_rfl) (fun _ _ _ h => h) (by rfl) hS #[true, true, true, true, true, true, true, true, true, true, true, true, true, true, true, true, true, true, true, true, true, true, true, true, true, true, true, true, true, true, true, true, false, false, false, false, false] rfl ?_
                (try simp only [Act.put, List.setIfInBounds_toArray, List.set_cons_zero, List.set_cons_succ])
                refine h_skip 32 (some 75) rfl rfl (by kernel_rfl) (by kernel_rfl) (by kernel_rfl) (fun _ _ _ h => h) (by rfl) hS #[true, true, true, true, true, true, true, true, true, true, true, true, true, true, true, true, true, true, true, true, true, true, true, true, true, true, true, true, true, true, true, true, true, false, false, false, false] rfl ?_
                (try simp only [Act.put, List.setIfInBounds_toArray, List.set_cons_zero, List.set_cons_succ])
                refine h_skip 33 (some 76) rfl rfl (by kernel_rfl) (by kernel_rfl) (by kernel_rfl) (fun _ _ _ h => h) (by rfl) hS #[true, true, true, true, true, true, true, true, true, true, true, true, true, true, true, true, true, true, true, true, true, true, true, true, true, true, true, true, true, true, true, true, true, true, false, false, false] rfl ?_
                (try simp only [Act.put, List.setIfInBounds_toArray, List.set_cons_zero, List.set_cons_succ])
                refine h_skip 34 (some 77) rfl rfl (by kernel_rfl) (by kernel_rfl) (by kernel_rfl) (fun _ _ _ h => h) (by rfl) hS #[true, true, true, true, true, true, true, true, true, true, true, true, true, true, true, true, true, true, true, true, true, true, true, true, true, true, true, true, true, true, true, true, true, true, true, false, false] rfl ?_
                (try simp only [Act.put, List.setIfInBounds_toArray, List.set_cons_zero, List.set_cons_succ])
                refine h_skip 35 (some 78) rfl rfl (by kernel_rfl) (by kernel_rfl) (by kernel_rfl) (fun _ _ _ h => h) (by rfl) hS #[true, true, true, true, true, true, true, true, true, true, true, true, true, true, true, true, true, true, true, true, true, true, true, true, true, true, true, true, true, true, true, true, true, true, true, true, false] rfl ?_
                (try simp only [Act.put, List.setIfInBounds_toArray, List.set_cons_zero, List.set_cons_succ])
                refine h_take (v := ?_) 36 (some 79) rfl rfl (by kernel_rfl) (by kernel_rfl) (by kernel_rfl) (fun _ _ _ h => h) (by rfl) hS (fun wS hSw => ?_) #[true, true, true, true, true, true, true, true, true, true, true, true, true, true, true, true, true, true, true, true, true, true, true, true, true, true, true, true, true, true, true, true, true, true, true, true, true] rfl ?_; rotate_left
                · clear hSw; go_simp; first | done | with_reducible rfl
                (try simp only [Act.put, List.setIfInBounds_toArray, List.set_cons_zero, List.set_cons_succ])
                refine wpAnyH_done (by kernel_rfl) ?_ _
                have st := hS.1
                have hbq := hbq.stay hS.2
                have hown1 := hown1.stay hS.2
                clear hS
                go_wp2
                go_roundg (from_.length - (k + 1))
                case measure => omega
                case rel => exact ⟨k + 1, by omega, rfl, by go_num, hown1, hbq, st⟩
            · have hz1 : decide (z < (F.code.length : Int)) = false := by simpa using hz1
              go_wp2_with fail
              have hS : St w wr.drew w.heap.size x F ∧ Below wr.heap.size wr wr.drew := ⟨st.drew, (Below.refl _ _).drew⟩
              refine h_begin (S := fun w' => St w w' w.heap.size x F ∧ Below wr.heap.size wr w') 37 #[false, false, false, false, false, false, false, false, false, false, false, false, false, false, false, false, false, false, false, false, false, false, false, false, false, false, false, false, false, false, false, false, false, false, false, false, false] rfl rfl ?_
              refine h_take (v := ?_) 0 (some 43) rfl rfl (by kernel_rfl) (by kernel_rfl) (by kernel_rfl) (fun _ _ _ h => h) (by rfl) hS (fun wS hSw => ?_) #[true, false, false, false, false, false, false, false, false, false, false, false, false, false, false, false, false, false, false, false, false, false, false, false, false, false, false, false, false, false, false, false, false, false, false, false, false] rfl ?_; rotate_left
              · clear hSw; go_simp; first | done | with_reducible rfl
              (try simp only [Act.put, List.setIfInBounds_toArray, List.set_cons_zero, List.set_cons_succ])
              refine h_take (v := ?_) 1 (some 44) rfl rfl (by kernel_rfl) (by kernel_rfl) (by kernel_rfl) (fun _ _ _ h => h) (by rfl) hS (fun wS hSw => ?_) #[true, true, false, false, false, false, false, false, false, false, false, false, false, false, false, false, false, false, false, false, false, false, false, false, false, false, false, false, false, false, false, false, false, false, false, false, false] rfl ?_; rotate_left
              · have hc := cells_of hSw.2; go_simp; first | done | with_reducible rfl
              (try simp only [Act.put, List.setIfInBounds_toArray, List.set_cons_zero, List.set_cons_succ])
              refine h_take (v := ?_) 2 (some 45) rfl rfl (by kernel_rfl) (by kernel_rfl) (by kernel_rfl) (fun _ _ _ h => h) (by rfl) hS (fun wS hSw => ?_) #[true, true, true, false, false, false, false, false, false, false, false, false, false, false, false, false, false, false, false, false, false, false, false, false, false, false, false, false, false, false, false, false, false, false, false, false, false] rfl ?_; rotate_left
              · clear hSw; go_simp; first | done | with_reducible rfl
              (try simp only [Act.put, List.setIfInBounds_toArray, List.set_cons_zero, List.set_cons_succ])
              refine h_take (v := ?_) 3 (some 46) rfl rfl (by kernel_rfl) (by kernel_rfl) (by kernel_rfl) (fun _ _ _ h => h) (by rfl) hS (fun wS hSw => ?_) #[true, true, true, true, false, false, false, false, false, false, false, false, false, false, false, false, false, false, false, false, false, false, false, false, false, false, false, false, false, false, false, false, false, false, false, false, false] rfl ?_; rotate_left
              · have hc := cells_of hSw.2; go_simp; first | done | with_reducible rfl
              (try simp only [Act.put, List.setIfInBounds_toArray, List.set_cons_zero, List.set_cons_succ])
              refine h_take (v := ?_) 4 (some 47) rfl rfl (by kernel_rfl) (by kernel_rfl) (by kernel_rfl) (fun _ _ _ h => h) (by rfl) hS (fun wS hSw => ?_) #[true, true, true, true, true, false, false, false, false, false, false, false, false, false, false, false, false, false, false, false, false, false, false, false, false, false, false, false, false, false, false, false, false, false, false, false, false] rfl ?_; rotate_left
              · have hc := cells_of hSw.2; go_simp; first | done | with_reducible rfl
              (try simp only [Act.put, List.setIfInBounds_toArray, List.set_cons_zero, List.set_cons_succ])
              refine h_take (v := ?_) 5 (some 48) rfl rfl (by kernel_rfl) (by kernel_rfl) (by kernel_rfl) (fun _ _ _ h => h) (by rfl) hS (fun wS hSw => ?_) #[true, true, true, true, true, true, false, false, false, false, false, false, false, false, false, false, false, false, false, false, false, false, false, false, false, false, false, false, false, false, false, false, false, false, false, false, false] rfl ?_; rotate_left
              · clear hSw; go_simp; first | done | with_reducible rfl
              (try simp only [Act.put, List.setIfInBounds_toArray, List.set_cons_zero, List.set_cons_succ])
              refine h_take (v := ?_) 6 (some 49) rfl rfl (by kernel_rfl) (by kernel_rfl) (by kernel_rfl) (fun _ _ _ h => h) (by rfl) hS (fun wS hSw => ?_) #[true, true, true, true, true, true, true, false, false, false, false, false, false, false, false, false, false, false, false, false, false, false, false, false, false, false, false, false, false, false, false, false, false, false, false, false, false] rfl ?_; rotate_left
              · clear hSw; go_simp; first | done | with_reducible rfl
              (try simp only [Act.put, List.setIfInBounds_toArray, List.set_cons_zero, List.set_cons_succ])
              refine h_take (v := ?_) 7 (some 50) rfl rfl (by kernel_rfl) (by kernel_rfl) (by kernel_rfl) (fun _ _ _ h => h) (by rfl) hS (fun wS hSw => ?_) #[true, true, true, true, true, true, true, true, false, false, false, false, false, false, false, false, false, false, false, false, false, false, false, false, false, false, false, false, false, false, false, false, false, false, false, false, false] rfl ?_; rotate_left
              · clear hSw; go_simp; first | done | with_reducible rfl
              (try simp only [Act.put, List.setIfInBounds_toArray, List.set_cons_zero, List.set_cons_succ])
              refine h_take (v := ?_) 8 (some 51) rfl rfl (by kernel_rfl) (by kernel_rfl) (by kernel_rfl) (fun _ _ _ h => h) (by rfl) hS (fun wS hSw => ?_) #[true, true, true, true, true, true, true, true, true, false, false, false, false, false, false, false, false, false, false, false, false, false, false, false, false, false, false, false, false, false, false, false, false, false, false, false, false] rfl ?_; rotate_left
              · have hc := cells_of hSw.2; go_simp; first | done | with_reducible rfl
              (try simp only [Act.put, List.setIfInBounds_toArray, List.set_cons_zero, List.set_cons_succ])
              refine h_take (v := ?_) 9 (some 52) rfl rfl (by kernel_rfl) (by kernel_rfl) (by kernel_rfl) (fun _ _ _ h => h) (by rfl) hS (fun wS hSw => ?_) #[true, true, true, true, true, true, true, true, true, true, false, false, false, false, false, false, false, false, false, false, false, false, false, false, false, false, false, false, false, false, false, false, false, false, false, false, false] rfl ?_; rotate_left
              · clear hSw; go_simp; first | done | with_reducible rfl
              (try simp only [Act.put, List.setIfInBounds_toArray, List.set_cons_zero, List.set_cons_succ])
              refine h_take (v := ?_) 10 (some 53) rfl rfl (by kernel_rfl) (by kernel_rfl) (by kernel_rfl) (fun _ _ _ h => h) (by rfl) hS (fun wS hSw => ?_) #[true, true, true, true, true, true, true, true, true, true, true, false, false, false, false, false, false, false, false, false, false, false, false, false, false, false, false, false, false, false, false, false, false, false, false, false, false] rfl ?_; rotate_left
              · have hc := cells_of hSw.2; go_simp; first | done | with_reducible rfl
              (try simp only [Act.put, List.setIfInBounds_toArray, List.set_cons_zero, List.set_cons_succ])
              refine h_take (v := ?_) 11 (some 54) rfl rfl (by kernel_rfl) (by kernel_rfl) (by kernel_rfl) (fun _ _ _ h => h) (by rfl) hS (fun wS hSw => ?_) #[true, true, true, true, true, true, true, true, true, true, true, true, false, false, false, false, false, false, false, false, false, false, false, false, false, false, false, false, false, false, false, false, false, false, false, false, false] rfl ?_; rotate_left
              · have hc := cells_of hSw.2; go_simp; first | done | with_reducible rfl
              (try simp only [Act.put, List.setIfInBounds_toArray, List.set_cons_zero, List.set_cons_succ])
              refine h_take (v := ?_) 12 (some 55) rfl rfl (by kernel_rfl) (by kernel_rfl) (by kernel_rfl) (fun _ _ _ h => h) (by rfl) hS (fun wS hSw => ?_) #[true, true, true, true, true, true, true, true, true, true, true, true, true, false, false, false, false, false, false, false, false, false, false, false, false, false, false, false, false, false, false, false, false, false, false, false, false] rfl ?_; rotate_left
              · clear hSw; go_simp; first | done | with_reducible rfl
              (try simp only [Act.put, List.setIfInBounds_toArray, List.set_cons_zero, List.set_cons_succ])
              refine h_take (v := ?_) 13 (some 56) rfl rfl (by kernel_rfl) (by kernel_rfl) (by kernel_rfl) (fun _ _ _ h => h) (by rfl) hS (fun wS hSw => ?_) #[true, true, true, true, true, true, true, true, true, true, true, true, true, true, false, false, false, false, false, false, false, false, false, false, false, false, false, false, false, false, false, false, false, false, false, false, false] rfl ?_; rotate_left
              · have hc := cells_of hSw.2; go_simp; first | done | with_reducible rfl
              (try simp only [Act.put, List.setIfInBounds_toArray, List.set_cons_zero, List.set_cons_succ])
              refine h_take (v := ?_) 14 (some 57) rfl rfl (by kernel_rfl) (by kernel_rfl) (by kernel_rfl) (fun _ _ _ h => h) (by rfl) hS (fun wS hSw => ?_) #[true, true, true, true, true, true, true, true, true, true, true, true, true, true, true, false, false, false, false, false, false, false, false, false, false, false, false, false, false, false, false, false, false, false, false, false, false] rfl ?_; rotate_left
              · clear hSw; go_simp; first | done | with_reducible rfl
              (try simp only [Act.put, List.setIfInBounds_toArray, List.set_cons_zero, List.set_cons_succ])
              refine h_take (v := ?_) 15 (some 58) rfl rfl (by kernel_rfl) (by kernel_rfl) (by kernel_rfl) (fun _ _ _ h => h) (by rfl) hS (fun wS hSw => ?_) #[true, true, true, true, true, true, true, true, true, true, true, true, true, true, true, true, false, false, false, false, false, false, false, false, false, false, false, false, false, false, false, false, false, false, false, false, false] rfl ?_; rotate_left
              · clear hSw; go_simp; first | done | with_reducible rfl
              (try simp only [Act.put, List.setIfInBounds_toArray, List.set_cons_zero, List.set_cons_succ])
              refine h_take (v := ?_) 16 (some 59) rfl rfl (by kernel_rfl) (by kernel_rfl) (by kernel_rfl) (fun _ _ _ h => h) (by rfl) hS (fun wS hSw => ?_) #[true, true, true, true, true, true, true, true, true, true, true, true, true, true, true, true, true, false, false, false, false, false, false, false, false, false, false, false, false, false, false, false, false, false, false, false, false] rfl ?_; rotate_left
              · clear hSw; go_simp; first | done | with_reducible rfl
              (try simp only [Act.put, List.setIfInBounds_toArray, List.set_cons_zero, List.set_cons_succ])
              refine h_take (v := ?_) 17 (some 60) rfl rfl (by kernel_rfl) (by kernel_rfl) (by kernel_rfl) (fun _ _ _ h => h) (by rfl) hS (fun wS hSw => ?_) #[true, true, true, true, true, true, true, true, true, true, true, true, true, true, true, true, true, true, false, false, false, false, false, false, false, false, false, false, false, false, false, false, false, false, false, false, false] rfl ?_; rotate_left
              · clear hSw; go_simp; first | done | with_reducible rfl
              (try simp only [Act.put, List.setIfInBounds_toArray, List.set_cons_zero, List.set_cons_succ])
              refine h_skip 18 (some 61) rfl rfl (by kernel_rfl) (by kernel_rfl) (by kernel_rfl) (fun _ _ _ h => h) (by rfl) hS #[true, true, true, true, true, true, true, true, true, true, true, true, true, true, true, true, true, true, true, false, false, false, false, false, false, false, false, false, false, false, false, false, false, false, false, false, false] rfl ?_
              (try simp only [Act.put, List.setIfInBounds_toArray, List.set_cons_zero, List.set_cons_succ])
              refine h_skip 19 (some 62) rfl rfl (by kernel_rfl) (by kernel_rfl) (by kernel_rfl) (fun _ _ _ h => h) (by rfl) hS #[true, true, true, true, true, true, true, true, true, true, true, true, true, true, true, true, true, true, true, true, false, false, false, false, false, false, false, false, false, false, false, false, false, false, false, false, false] rfl ?_
              (try simp only [Act.put, List.setIfInBounds_toArray, List.set_cons_zero, List.set_cons_succ])
              refine h_skip 20 (some 63) rfl rfl (by kernel_rfl) (by kernel_rfl) (by kernel_rfl) (fun _ _ _ h => h) (by rfl) hS #[true, true, true, true, true, true, true, true, true, true, true, true, true, true, true, true, true, true, true, true, true, false, false, false, false, false, false, false, false, false, false, false, false, false, false, false, false] rfl ?_
              (try simp only [Act.put, List.setIfInBounds_toArray, List.set_cons_zero, List.set_cons_succ])
              refine h_skip 21 (some 64) rfl rfl (by kernel_rfl) (by kernel_rfl) (by kernel_rfl) (fun _ _ _ h => h) (by rfl) hS #[true, true, true, true, true, true, true, true, true, true, true, true, true, true, true, true, true, true, true, true, true, true, false, false, false, false, false, false, false, false, false, false, false, false, false, false, false] rfl ?_
              (try simp only [Act.put, List.setIfInBounds_toArray, List.set_cons_zero, List.set_cons_succ])
              refine h_skip 22 (some 65) rfl rfl (by kernel_rfl) (by kernel_rfl) (by kernel_rfl) (fun _ _ _ h => h) (by rfl) hS #[true, true, true, true, true, true, true, true, true, true, true, true, true, true, true, true, true, true, true, true, true, true, true, false, false, false, false, false, false, false, false, false, false, false, false, false, false] rfl ?_
              (try simp only [Act.put, List.setIfInBounds_toArray, List.set_cons_zero, List.set_cons_succ])
              refine h_skip 23 (some 66) rfl rfl (by kernel_rfl) (by kernel_rfl) (by kernel_rfl) (fun _ _ _ h => h) (by rfl) hS #[true, true, true, true, true, true, true, true, true, true, true, true, true, true, true, true, true, true, true, true, true, true, true, true, false, false, false, false, false, false, false, false, false, false, false, false, false] rfl ?_
              (try simp only [Act.put, List.setIfInBounds_toArray, List.set_cons_zero, List.set_cons_succ])
              refine h_skip 24 (some 67) rfl rfl (by kernel_rfl) (by kernel_rfl) (by kernel_rfl) (fun _ _ _ h => h) (by rfl) hS #[true, true, true, true, true, true, true, true, true, true, true, true, true, true, true, true, true, true, true, true, true, true, true, true, true, false, false, false, false, false, false, false, false, false, false, false, false] rfl ?_
              (try simp only [Act.put, List.setIfInBounds_toArray, List.set_cons_zero, List.set_cons_succ])
              refine h_skip 25 (some 68) rfl rfl (by kernel_rfl) (by kernel_rfl) (by kernel_rfl) (fun _ _ _ h => h) (by rfl) hS #[true, true, true, true, true, true, true, true, true, true, true, true, true, true, true, true, true, true, true, true, true, true, true, true, true, true, false, false, false, false, false, false, false, false, false, false, false] rfl ?_
              (try simp only [Act.put, List.setIfInBounds_toArray, List.set_cons_zero, List.set_cons_succ])
              refine h_take (v := ?_) 26 (some 69) rfl rfl (by kernel_rfl) (by kernel_rfl) (by kernel_rfl) (fun _ _ _ h => h) (by rfl) hS (fun wS hSw => ?_) #[true, true, true, true, true, true, true, true, true, true, true, true, true, true, true, true, true, true, true, true, true, true, true, true, true, true, true, false, false, false, false, false, false, false, false, false, false] rfl ?_; rotate_left
              · clear hSw; go_simp; first | done | with_reducible rfl
              (try simp only [Act.put, List.setIfInBounds_toArray, List.set_cons_zero, List.set_cons_succ])
              refine h_take (v := ?_) 27 (some 70) rfl rfl (by kernel_rfl) (by kernel_rfl) (by kernel_rfl) (fun _ _ _ h => h) (by rfl) hS (fun wS hSw => ?_) #[true, true, true, true, true, true, true, true, true, true, true, true, true, true, true, true, true, true, true, true, true, true, true, true, true, true, true, true, false, false, false, false, false, false, false, false, false] rfl ?_; rotate_left
              · clear hSw; go_simp; first | done | with_reducible rfl
              (try simp only [Act.put, List.setIfInBounds_toArray, List.set_cons_zero, List.set_cons_succ])
              refine h_skip 28 (some 71) rfl rfl (by kernel_rfl) (by kernel_rfl) (by kernel_rfl) (fun _ _ _ h => h) (by rfl) hS #[true, true, true, true, true, true, true, true, true, true, true, true, true, true, true, true, true, true, true, true, true, true, true, true, true, true, true, true, true, false, false, false, false, false, false, false, false] rfl ?_
              (try simp only [Act.put, List.setIfInBounds_toArray, List.set_cons_zero, List.set_cons_succ])
              refine h_skip 29 (some 72) rfl rfl (by kernel_rfl) (by kernel_rfl) (by kernel_rfl) (fun _ _ _ h => h) (by rfl) hS #[true, true, true, true, true, true, true, true, true, true, true, true, true, true, true, true, true, true, true, true, true, true, true, true, true, true, true, true, true, true, false, false, false, false, false, false, false] rfl ?_
              (try simp only [Act.put, List.setIfInBounds_toArray, List.set_cons_zero, List.set_cons_succ])
              refine h_skip 30 (some 73) rfl rfl (by kernel_rfl) (by kernel_rfl) (by kernel_rfl) (fun _ _ _ h => h) (by rfl) hS #[true, true, true, true, true, true, true, true, true, true, true, true, true, true, true, true, true, true, true, true, true, true, true, true, true, true, true, true, true, true, true, false, false, false, false, false, false] rfl ?_
              (try simp only [Act.put, List.setIfInBounds_toArray, List.set_cons_zero, List.set_cons_succ])
              refine h_skip 31 (some 74) rfl rfl (by kernel_rfl) (by kernel_rfl) (by kernel_rfl) (fun _ _ _ h => h) (by rfl) hS #[true, true, true, true, true, true, true, true, true, true, true, true, true, true, true, true, true, true, true, true, true, true, true, true, true, true, true, true, true, true, true, true, false, false, false, false, false] rfl ?_
              (try simp only [Act.put, List.setIfInBounds_toArray, List.set_cons_zero, List.set_cons_succ])
              refine h_skip 32 (some 75) rfl rfl (by kernel_rfl) (by kernel_rfl) (by kernel_rfl) (fun _ _ _ h => h) (by rfl) hS #[true, true, true, true, true, true, true, true, true, true, true, true, true, true, true, true, true, true, true, true, true, true, true, true, true, true, true, true, true, true, true, true, true, false, false, false, false] rfl ?_
              (try simp only [Act.put, List.setIfInBounds_toArray, List.set_cons_zero, List.set_cons_succ])
              refine h_skip 33 (some 76) rfl rfl (by kernel_rfl) (by kernel_rfl) (by kernel_rfl) (fun _ _ _ h => h) (by rfl) hS #[true, true, true, true, true, true, true, true, true, true, true, true, true, true, true, true, true, true, true, true, true, true, true, true, true, true, true, true, true, true, true, true, true, true, false, false, false] rfl ?_
              (try simp only [Act.put, List.setIfInBounds_toArray, List.set_cons_zero, List.set_cons_succ])
              refine h_skip 34 (some 77) rfl rfl (by kernel_rfl) (by kernel_rfl) (by kernel_rfl) (fun _ _ _ h => h) (by rfl) hS #[true, true, true, true, true, true, true, true, true, true, true, true, true, true, true, true, true, true, true, true, true, true, true, true, true, true, true, true, true, true, true, true, true, true, true, false, false] rfl ?_
              (try simp only [Act.put, List.setIfInBounds_toArray, List.set_cons_zero, List.set_cons_succ])
              refine h_skip 35 (some 78) rfl rfl (by kernel_rfl) (by kernel_rfl) (by kernel_rfl) (fun _ _ _ h => h) (by rfl) hS #[true, true, true, true, true, true, true, true, true, true, true, true, true, true, true, true, true, true, true, true, true, true, true, true, true, true, true, true, true, true, true, true, true, true, true, true, false] rfl ?_
              (try simp only [Act.put, List.setIfInBounds_toArray, List.set_cons_zero, List.set_cons_succ])
              refine h_take (v := ?_) 36 (some 79) rfl rfl (by kernel_rfl) (by kernel_rfl) (by kernel_rfl) (fun _ _ _ h => h) (by rfl) hS (fun wS hSw => ?_) #[true, true, true, true, true, true, true, true, true, true, true, true, true, true, true, true, true, true, true, true, true, true, true, true, true, true, true, true, true, true, true, true, true, true, true, true, true] rfl ?_; rotate_left
              · clear hSw; go_simp; first | done | with_reducible rfl
              (try simp only [Act.put, List.setIfInBounds_toArray, List.set_cons_zero, List.set_cons_succ])
              refine wpAnyH_done (by kernel_rfl) ?_ _
              have st := hS.1
              have hbq := hbq.stay hS.2
              have hown1 := hown1.stay hS.2
              clear hS
              go_wp2
              go_roundg (from_.length - (k + 1))
              case measure => omega
              case rel => exact ⟨k + 1, by omega, rfl, by go_num, hown1, hbq, st⟩
          · have hz0 : decide (0 ≤ z) = false := by simpa using hz0
            go_wp2_with fail
            have hS : St w wr.drew w.heap.size x F ∧ Below wr.heap.size wr wr.drew := ⟨st.drew, (Below.refl _ _).drew⟩
            refine h_begin (S := fun w' => St w w' w.heap.size x F ∧ Below wr.heap.size wr w') 37 #[false, false, false, false, false, false, false, false, false, false, false, false, false, false, false, false, false, false, false, false, false, false, false, false, false, false, false, false, false, false, false, false, false, false, false, false, false] rfl rfl ?_
            refine h_take (v := ?_) 0 (some 43) rfl rfl (by kernel_rfl) (by kernel_rfl) (by kernel_rfl) (fun _ _ _ h => h) (by rfl) hS (fun wS hSw => ?_) #[true, false, false, false, false, false, false, false, false, false, false, false, false, false, false, false, false, false, false, false, false, false, false, false, false, false, false, false, false, false, false, false, false, false, false, false, false] rfl ?_; rotate_left
            · clear hSw; go_simp; first | done | with_reducible rfl
            (try simp only [Act.put, List.setIfInBounds_toArray, List.set_cons_zero, List.set_cons_succ])
            refine h_take (v := ?_) 1 (some 44) rfl rfl (by kernel_rfl) (by kernel_rfl) (by kernel_rfl) (fun _ _ _ h => h) (by rfl) hS (fun wS hSw => ?_) #[true, true, false, false, false, false, false, false, false, false, false, false, false, false, false, false, false, false, false, false, false, false, false, false, false, false, false, false, false, false, false, false, false, false, false, false, false] rfl ?_; rotate_left
            · have hc := cells_of hSw.2; go_simp; first | done | with_reducible rfl
            (try simp only [Act.put, List.setIfInBounds_toArray, List.set_cons_zero, List.set_cons_succ])
            refine h_take (v := ?_) 2 (some 45) rfl rfl (by kernel_rfl) (by kernel_rfl) (by kernel_rfl) (fun _ _ _ h => h) (by rfl) hS (fun wS hSw => ?_) #[true, true, true, false, false, false, false, false, false, false, false, false, false, false, false, false, false, false, false, false, false, false, false, false, false, false, false, false, false, false, false, false, false, false, false, false, false] rfl ?_; rotate_left
            · clear hSw; go_simp; first | done | with_reducible rfl
            (try simp only [Act.put, List.setIfInBounds_toArray, List.set_cons_zero, List.set_cons_succ])
            refine h_take (v := ?_) 3 (some 46) rfl rfl (by kernel_rfl) (by kernel_rfl) (by kernel_rfl) (fun _ _ _ h => h) (by rfl) hS (fun wS hSw => ?_) #[true, true, true, true, false, false, false, false, false, false, false, false, false, false, false, false, false, false, false, false, false, false, false, false, false, false, false, false, false, false, false, false, false, false, false, false, false] rfl ?_; rotate_left
            · have hc := cells_of hSw.2; go_simp; first | done | with_reducible rfl
            (try simp only [Act.put, List.setIfInBounds_toArray, List.set_cons_zero, List.set_cons_succ])
            refine h_take (v := ?_) 4 (some 47) rfl rfl (by kernel_rfl) (by kernel_rfl) (by kernel_rfl) (fun _ _ _ h => h) (by rfl) hS (fun wS hSw => ?_) #[true, true, true, true, true, false, false, false, false, false, false, false, false, false, false, false, false, false, false, false, false, false, false, false, false, false, false, false, false, false, false, false, false, false, false, false, false] rfl ?_; rotate_left
            · have hc := cells_of hSw.2; go_simp; first | done | with_reducible rfl
            (try simp only [Act.put, List.setIfInBounds_toArray, List.set_cons_zero, List.set_cons_succ])
            refine h_take (v := ?_) 5 (some 48) rfl rfl (by kernel_rfl) (by kernel_rfl) (by kernel_rfl) (fun _ _ _ h => h) (by rfl) hS (fun wS hSw => ?_) #[true, true, true, true, true, true, false, false, false, false, false, false, false, false, false, false, false, false, false, false, false, false, false, false, false, false, false, false, false, false, false, false, false, false, false, false, false] rfl ?_; rotate_left
            · clear hSw; go_simp; first | done | with_reducible rfl
            (try simp only [Act.put, List.setIfInBounds_toArray, List.set_cons_zero, List.set_cons_succ])
            refine h_take (v := ?_) 6 (some 49) rfl rfl (by kernel_rfl) (by kernel_rfl) (by kernel_rfl) (fun _ _ _ h => h) (by rfl) hS (fun wS hSw => ?_) #[true, true, true, true, true, true, true, false, false, false, false, false, false, false, false, false, false, false, false, false, false, false, false, false, false, false, false, false, false, false, false, false, false, false, false, false, false] rfl ?_; rotate_left
            · clear hSw; go_simp; first | done | with_reducible rfl
            (try simp only [Act.put, List.setIfInBounds_toArray, List.set_cons_zero, List.set_cons_succ])
            refine h_skip 7 (some 50) rfl rfl (by kernel_rfl) (by kernel_rfl) (by kernel_rfl) (fun _ _ _ h => h) (by rfl) hS #[true, true, true, true, true, true, true, true, false, false, false, false, false, false, false, false, false, false, false, false, false, false, false, false, false, false, false, false, false, false, false, false, false, false, false, false, false] rfl ?_
            (try simp only [Act.put, List.setIfInBounds_toArray, List.set_cons_zero, List.set_cons_succ])
            refine h_skip 8 (some 51) rfl rfl (by kernel_rfl) (by kernel_rfl) (by kernel_rfl) (fun _ _ _ h => h) (by rfl) hS #[true, true, true, true, true, true, true, true, true, false, false, false, false, false, false, false, false, false, false, false, false, false, false, false, false, false, false, false, false, false, false, false, false, false, false, false, false] rfl ?_
            (try simp only [Act.put, List.setIfInBounds_toArray, List.set_cons_zero, List.set_cons_succ])
            refine h_skip 9 (some 52) rfl rfl (by kernel_rfl) (by kernel_rfl) (by kernel_rfl) (fun _ _ _ h => h) (by rfl) hS #[true, true, true, true, true, true, true, true, true, true, false, false, false, false, false, false, false, false, false, false, false, false, false, false, false, false, false, false, false, false, false, false, false, false, false, false, false] rfl ?_
            (try simp only [Act.put, List.setIfInBounds_toArray, List.set_cons_zero, List.set_cons_succ])
            refine h_skip 10 (some 53) rfl rfl (by kernel_rfl) (by kernel_rfl) (by kernel_rfl) (fun _ _ _ h => h) (by rfl) hS #[true, true, true, true, true, true, true, true, true, true, true, false, false, false, false, false, false, false, false, false, false, false, false, false, false, false, false, false, false, false, false, false, false, false, false, false, false] rfl ?_
            (try simp only [Act.put, List.setIfInBounds_toArray, List.set_cons_zero, List.set_cons_succ])
            refine h_skip 11 (some 54) rfl rfl (by kernel_rfl) (by kernel_rfl) (by kernel_rfl) (fun _ _ _ h => h) (by rfl) hS #[true, true, true, true, true, true, true, true, true, true, true, true, false, false, false, false, false, false, false, false, false, false, false, false, false, false, false, false, false, false, false, false, false, false, false, false, false] rfl ?_
            (try simp only [Act.put, List.setIfInBounds_toArray, List.set_cons_zero, List.set_cons_succ])
            refine h_skip 12 (some 55) rfl rfl (by kernel_rfl) (by kernel_rfl) (by kernel_rfl) (fun _ _ _ h => h) (by rfl) hS #[true, true, true, true, true, true, true, true, true, true, true, true, true, false, false, false, false, false, false, false, false, false, false, false, false, false, false, false, false, false, false, false, false, false, false, false, false] rfl ?_
            (try simp only [Act.put, List.setIfInBounds_toArray, List.set_cons_zero, List.set_cons_succ])
            refine h_skip 13 (some 56) rfl rfl (by kernel_rfl) (by kernel_rfl) (by kernel_rfl) (fun _ _ _ h => h) (by rfl) hS #[true, true, true, true, true, true, true, true, true, true, true, true, true, true, false, false, false, false, false, false, false, false, false, false, false, false, false, false, false, false, false, false, false, false, false, false, false] rfl ?_
            (try simp only [Act.put, List.setIfInBounds_toArray, List.set_cons_zero, List.set_cons_succ])
            refine h_skip 14 (some 57) rfl rfl (by kernel_rfl) (by kernel_rfl) (by kernel_rfl) (fun _ _ _ h => h) (by rfl) hS #[true, true, true, true, true, true, true, true, true, true, true, true, true, true, true, false, false, false, false, false, false, false, false, false, false, false, false, false, false, false, false, false, false, false, false, false, false] rfl ?_
            (try simp only [Act.put, List.setIfInBounds_toArray, List.set_cons_zero, List.set_cons_succ])
            refine h_skip 15 (some 58) rfl rfl (by kernel_rfl) (by kernel_rfl) (by kernel_rfl) (fun _ _ _ h => h) (by rfl) hS #[true, true, true, true, true, true, true, true, true, true, true, true, true, true, true, true, false, false, false, false, false, false, false, false, false, false, false, false, false, false, false, false, false, false, false, false, false] rfl ?_
            (try simp only [Act.put, List.setIfInBounds_toArray, List.set_cons_zero, List.set_cons_succ])
            refine h_take (v := ?_) 16 (some 59) rfl rfl (by kernel_rfl) (by kernel_rfl) (by kernel_rfl) (fun _ _ _ h => h) (by rfl) hS (fun wS hSw => ?_) #[true, true, true, true, true, true, true, true, true, true, true, true, true, true, true, true, true, false, false, false, false, false, false, false, false, false, false, false, false, false, false, false, false, false, false, false, false] rfl ?_; rotate_left
            · clear hSw; go_simp; first | done | with_reducible rfl
            (try simp only [Act.put, List.setIfInBounds_toArray, List.set_cons_zero, List.set_cons_succ])
            refine h_take (v := ?_) 17 (some 60) rfl rfl (by kernel_rfl) (by kernel_rfl) (by kernel_rfl) (fun _ _ _ h => h) (by rfl) hS (fun wS hSw => ?_) #[true, true, true, true, true, true, true, true, true, true, true, true, true, true, true, true, true, true, false, false, false, false, false, false, false, false, false, false, false, false, false, false, false, false, false, false, false] rfl ?_; rotate_left
            · clear hSw; go_simp; first | done | with_reducible rfl
            (try simp only [Act.put, List.setIfInBounds_toArray, List.set_cons_zero, List.set_cons_succ])
            refine h_skip 18 (some 61) rfl rfl (by kernel_rfl) (by kernel_rfl) (by kernel_rfl) (fun _ _ _ h => h) (by rfl) hS #[true, true, true, true, true, true, true, true, true, true, true, true, true, true, true, true, true, true, true, false, false, false, false, false, false, false, false, false, false, false, false, false, false, false, false, false, false] rfl ?_
            (try simp only [Act.put, List.setIfInBounds_toArray, List.set_cons_zero, List.set_cons_succ])
            refine h_skip 19 (some 62) rfl rfl (by kernel_rfl) (by kernel_rfl) (by kernel_rfl) (fun _ _ _ h => h) (by rfl) hS #[true, true, true, true, true, true, true, true, true, true, true, true, true, true, true, true, true, true, true, true, false, false, false, false, false, false, false, false, false, false, false, false, false, false, false, false, false] rfl ?_
            (try simp only [Act.put, List.setIfInBounds_toArray, List.set_cons_zero, List.set_cons_succ])
            refine h_skip 20 (some 63) rfl rfl (by kernel_rfl) (by kernel_rfl) (by kernel_rfl) (fun _ _ _ h => h) (by rfl) hS #[true, true, true, true, true, true, true, true, true, true, true, true, true, true, true, true, true, true, true, true, true, false, false, false, false, false, false, false, false, false, false, false, false, false, false, false, false] rfl ?_
            (try simp only [Act.put, List.setIfInBounds_toArray, List.set_cons_zero, List.set_cons_succ])
            refine h_skip 21 (some 64) rfl rfl (by kernel_rfl) (by kernel_rfl) (by kernel_rfl) (fun _ _ _ h => h) (by rfl) hS #[true, true, true, true, true, true, true, true, true, true, true, true, true, true, true, true, true, true, true, true, true, true, false, false, false, false, false, false, false, false, false, false, false, false, false, false, false] rfl ?_
            (try simp only [Act.put, List.setIfInBounds_toArray, List.set_cons_zero, List.set_cons_succ])
            refine h_skip 22 (some 65) rfl rfl (by kernel_rfl) (by kernel_rfl) (by kernel_rfl) (fun _ _ _ h => h) (by rfl) hS #[true, true, true, true, true, true, true, true, true, true, true, true, true, true, true, true, true, true, true, true, true, true, true, false, false, false, false, false, false, false, false, false, false, false, false, false, false] rfl ?_
            (try simp only [Act.put, List.setIfInBounds_toArray, List.set_cons_zero, List.set_cons_succ])
            refine h_skip 23 (some 66) rfl rfl (by kernel_rfl) (by kernel_rfl) (by kernel_rfl) (fun _ _ _ h => h) (by rfl) hS #[true, true, true, true, true, true, true, true, true, true, true, true, true, true, true, true, true, true, true, true, true, true, true, true, false, false, false, false, false, false, false, false, false, false, false, false, false] rfl ?_
            (try simp only [Act.put, List.setIfInBounds_toArray, List.set_cons_zero, List.set_cons_succ])
            refine h_skip 24 (some 67) rfl rfl (by kernel_rfl) (by kernel_rfl) (by kernel_rfl) (fun _ _ _ h => h) (by rfl) hS #[true, true, true, true, true, true, true, true, true, true, true, true, true, true, true, true, true, true, true, true, true, true, true, true, true, false, false, false, false, false, false, false, false, false, false, false, false] rfl ?_
            (try simp only [Act.put, List.setIfInBounds_toArray, List.set_cons_zero, List.set_cons_succ])
            refine h_skip 25 (some 68) rfl rfl (by kernel_rfl) (by kernel_rfl) (by kernel_rfl) (fun _ _ _ h => h) (by rfl) hS #[true, true, true, true, true, true, true, true, true, true, true, true, true, true, true, true, true, true, true, true, true, true, true, true, true, true, false, false, false, false, false, false, false, false, false, false, false] rfl ?_
            (try simp only [Act.put, List.setIfInBounds_toArray, List.set_cons_zero, List.set_cons_succ])
            refine h_take (v := ?_) 26 (some 69) rfl rfl (by kernel_rfl) (by kernel_rfl) (by kernel_rfl) (fun _ _ _ h => h) (by rfl) hS (fun wS hSw => ?_) #[true, true, true, true, true, true, true, true, true, true, true, true, true, true, true, true, true, true, true, true, true, true, true, true, true, true, true, false, false, false, false, false, false, false, false, false, false] rfl ?_; rotate_left
            · clear hSw; go_simp; first | done | with_reducible rfl
            (try simp only [Act.put, List.setIfInBounds_toArray, List.set_cons_zero, List.set_cons_succ])
            refine h_take (v := ?_) 27 (some 70) rfl rfl (by kernel_rfl) (by kernel_rfl) (by kernel_rfl) (fun _ _ _ h => h) (by rfl) hS (fun wS hSw => ?_) #[true, true, true, true, true, true, true, true, true, true, true, true, true, true, true, true, true, true, true, true, true, true, true, true, true, true, true, true, false, false, false, false, false, false, false, false, false] rfl ?_; rotate_left
            · clear hSw; go_simp; first | done | with_reducible rfl
            (try simp only [Act.put, List.setIfInBounds_toArray, List.set_cons_zero, List.set_cons_succ])
            refine h_skip 28 (some 71) rfl rfl (by kernel_rfl) (by kernel_rfl) (by kernel_rfl) (fun _ _ _ h => h) (by rfl) hS #[true, true, true, true, true, true, true, true, true, true, true, true, true, true, true, true, true, true, true, true, true, true, true, true, true, true, true, true, true, false, false, false, false, false, false, false, false] rfl ?_
            (try simp only [Act.put, List.setIfInBounds_toArray, List.set_cons_zero, List.set_cons_succ])
            refine h_skip 29 (some 72) rfl rfl (by kernel_rfl) (by kernel_rfl) (by kernel_rfl) (fun _ _ _ h => h) (by rfl) hS #[true, true, true, true, true, true, true, true, true, true, true, true, true, true, true, true, true, true, true, true, true, true, true, true, true, true, true, true, true, true, false, false, false, false, false, false, false] rfl ?_
            (try simp only [Act.put, List.setIfInBounds_toArray, List.set_cons_zero, List.set_cons_succ])
            refine h_skip 30 (some 73) rfl rfl (by kernel_rfl) (by kernel_rfl) (by kernel_rfl) (fun _ _ _ h => h) (by rfl) hS #[true, true, true, true, true, true, true, true, true, true, true, true, true, true, true, true, true, true, true, true, true, true, true, true, true, true, true, true, true, true, true, false, false, false, false, false, false] rfl ?_
            (try simp only [Act.put, List.setIfInBounds_toArray, List.set_cons_zero, List.set_cons_succ])
            refine h_skip 31 (some 74) rfl rfl (by kernel_rfl) (by kernel_rfl) (by kernel_rfl) (fun _ _ _ h => h) (by rfl) hS #[true, true, true, true, true, true, true, true, true, true, true, true, true, true, true, true, true, true, true, true, true, true, true, true, true, true, true, true, true, true, true, true, false, false, false, false, false] rfl ?_
            (try simp only [Act.put, List.setIfInBounds_toArray, List.set_cons_zero, List.set_cons_succ])
            refine h_skip 32 (some 75) rfl rfl (by kernel_rfl) (by kernel_rfl) (by kernel_rfl) (fun _ _ _ h => h) (by rfl) hS #[true, true, true, true, true, true, true, true, true, true, true, true, true, true, true, true, true, true, true, true, true, true, true, true, true, true, true, true, true, true, true, true, true, false, false, false, false] rfl ?_
            (try simp only [Act.put, List.setIfInBounds_toArray, List.set_cons_zero, List.set_cons_succ])
            refine h_skip 33 (some 76) rfl rfl (by kernel_rfl) (by kernel_rfl) (by kernel_rfl) (fun _ _ _ h => h) (by rfl) hS #[true, true, true, true, true, true, true, true, true, true, true, true, true, true, true, true, true, true, true, true, true, true, true, true, true, true, true, true, true, true, true, true, true, true, false, false, false] rfl ?_
            (try simp only [Act.put, List.setIfInBounds_toArray, List.set_cons_zero, List.set_cons_succ])
            refine h_skip 34 (some 77) rfl rfl (by kernel_rfl) (by kernel_rfl) (by kernel_rfl) (fun _ _ _ h => h) (by rfl) hS #[true, true, true, true, true, true, true, true, true, true, true, true, true, true, true, true, true, true, true, true, true, true, true, true, true, true, true, true, true, true, true, true, true, true, true, false, false] rfl ?_
            (try simp only [Act.put, List.setIfInBounds_toArray, List.set_cons_zero, List.set_cons_succ])
            refine h_skip 35 (some 78) rfl rfl (by kernel_rfl) (by kernel_rfl) (by kernel_rfl) (fun _ _ _ h => h) (by rfl) hS #[true, true, true, true, true, true, true, true, true, true, true, true, true, true, true, true, true, true, true, true, true, true, true, true, true, true, true, true, true, true, true, true, true, true, true, true, false] rfl ?_
            (try simp only [Act.put, List.setIfInBounds_toArray, List.set_cons_zero, List.set_cons_succ])
            refine h_take (v := ?_) 36 (some 79) rfl rfl (by kernel_rfl) (by kernel_rfl) (by kernel_rfl) (fun _ _ _ h => h) (by rfl) hS (fun wS hSw => ?_) #[true, true, true, true, true, true, true, true, true, true, true, true, true, true, true, true, true, true, true, true, true, true, true, true, true, true, true, true, true, true, true, true, true, true, true, true, true] rfl ?_; rotate_left
            · clear hSw; go_simp; first | done | with_reducible rfl
            (try simp only [Act.put, List.setIfInBounds_toArray, List.set_cons_zero, List.set_cons_succ])
            refine wpAnyH_done (by kernel_rfl) ?_ _
            have st := hS.1
            have hbq := hbq.stay hS.2
            have hown1 := hown1.stay hS.2
            clear hS
            go_wp2
            go_roundg (from_.length - (k + 1))
            case measure => omega
            case rel => exact ⟨k + 1, by omega, rfl, by go_num, hown1, hbq, st⟩
        · go_wp2
          go_loopg [7] L.length (fun g s wr => ∃ (k : Nat), k ≤ L.length ∧ g = L.length - k ∧ s = .int .i64 k ∧ Own wr 0 A1 c1 L ∧ Bk wr w1.heap.size 34 #[.slice R rs.length rc, .slice A from_.length ac, .int .i64 stop] ∧ St w wr w.heap.size x F)
          case atStart => exact ⟨0, Nat.zero_le _, rfl, rfl, hown1, hbq, st⟩
          case round =>
            clear hown1 hbq st q0 q1 q2 hql ho h14 hlt hk
            obtain ⟨k, hk, rfl, rfl, hown1, hbq, st⟩ := hrel
            have ho := st.old
            have h14 := st.c14
            have q0 := (hbq.cell 0).trans rfl; have q1 := (hbq.cell 1).trans rfl; have q2 := (hbq.cell 2).trans rfl; have hql := hbq.lt; 
            have hxl := st.bx.lt
            by_cases hlt : k < L.length
            · obtain ⟨B, off, hA1, -, hB, h0⟩ := hown1.row.int_at hlt
              have hix := ix32 hA1 hlt c1
              have hmem := Lib.hid (getD_mem hlt)
              have hne := Lib.hid (hLne.out _ (getD_mem hlt))
              go_upto_region 12 with fail
              go_cut [108] (fun s wx => s = .bool false ∧ Own wx 0 A1 c1 L ∧ Bk wx w1.heap.size 34 #[.slice R rs.length rc, .slice A from_.length ac, .int .i64 stop] ∧ St w wx w.heap.size x F)
              case first =>
                have hst : (L.getD k 0 == stop) = false := by simpa using hne.out
                by_cases hk0 : 0 < k
                · obtain ⟨j, hj⟩ : ∃ j, k = j + 1 := ⟨k - 1, by omega⟩
                  have hjl : j < L.length := by omega
                  obtain ⟨B2, off2, hA2, -, hB2, h02⟩ := hown1.row.int_at hjl
                  have hix2 := ix32 hA2 hjl c1
                  have hsub : (k : Int) - 1 = (j : Int) := by omega
                  have hwr : IntKind.i64.wrap (j : Int) = (j : Int) := IntWalk.i64_in _ (by omega)
                  have hlq : decide (L.getD k 0 ≤ L.getD j 0) = false := by
                    have := rising_lt hLrise.out (show j < k by omega) hlt
                    simpa using this
                  clear hA1 hA2 hj
                  generalize L.getD j 0 = u at *
                  generalize L.getD k 0 = z at *
                  go_wp2_with fail
                  have hS : St w wr.drew w.heap.size x F ∧ Below wr.heap.size wr wr.drew := ⟨st.drew, (Below.refl _ _).drew⟩
                  refine h_begin (S := fun w' => St w w' w.heap.size x F ∧ Below wr.heap.size wr w') 23 #[false, false, false, false, false, false, false, false, false, false, false, false, false, false, false, false, false, false, false, false, false, false, false] rfl rfl ?_
                  refine h_take (v := ?_) 0 (some 86) rfl rfl (by kernel_rfl) (by kernel_rfl) (by kernel_rfl) (fun _ _ _ h => h) (by rfl) hS (fun wS hSw => ?_) #[true, false, false, false, false, false, false, false, false, false, false, false, false, false, false, false, false, false, false, false, false, false, false] rfl ?_; rotate_left
                  · clear hSw; go_simp; first | done | with_reducible rfl
                  (try simp only [Act.put, List.setIfInBounds_toArray, List.set_cons_zero, List.set_cons_succ])
                  refine h_take (v := ?_) 1 (some 87) rfl rfl (by kernel_rfl) (by kernel_rfl) (by kernel_rfl) (fun _ _ _ h => h) (by rfl) hS (fun wS hSw => ?_) #[true, true, false, false, false, false, false, false, false, false, false, false, false, false, false, false, false, false, false, false, false, false, false] rfl ?_; rotate_left
                  · clear hSw; go_simp; first | done | with_reducible rfl
                  (try simp only [Act.put, List.setIfInBounds_toArray, List.set_cons_zero, List.set_cons_succ])
                  refine h_take (v := ?_) 2 (some 88) rfl rfl (by kernel_rfl) (by kernel_rfl) (by kernel_rfl) (fun _ _ _ h => h) (by rfl) hS (fun wS hSw => ?_) #[true, true, true, false, false, false, false, false, false, false, false, false, false, false, false, false, false, false, false, false, false, false, false] rfl ?_; rotate_left
                  · have hc := cells_of hSw.2; go_simp; first | done | with_reducible rfl
                  (try simp only [Act.put, List.setIfInBounds_toArray, List.set_cons_zero, List.set_cons_succ])
                  refine h_take (v := ?_) 3 (some 89) rfl rfl (by kernel_rfl) (by kernel_rfl) (by kernel_rfl) (fun _ _ _ h => h) (by rfl) hS (fun wS hSw => ?_) #[true, true, true, true, false, false, false, false, false, false, false, false, false, false, false, false, false, false, false, false, false, false, false] rfl ?_; rotate_left
                  · have hc := cells_of hSw.2; go_simp; first | done | with_reducible rfl
                  (try simp only [Act.put, List.setIfInBounds_toArray, List.set_cons_zero, List.set_cons_succ])
                  refine h_take (v := ?_) 4 (some 90) rfl rfl (by kernel_rfl) (by kernel_rfl) (by kernel_rfl) (fun _ _ _ h => h) (by rfl) hS (fun wS hSw => ?_) #[true, true, true, true, true, false, false, false, false, false, false, false, false, false, false, false, false, false, false, false, false, false, false] rfl ?_; rotate_left
                  · clear hSw; go_simp; first | done | with_reducible rfl
                  (try simp only [Act.put, List.setIfInBounds_toArray, List.set_cons_zero, List.set_cons_succ])
                  refine h_take (v := ?_) 5 (some 91) rfl rfl (by kernel_rfl) (by kernel_rfl) (by kernel_rfl) (fun _ _ _ h => h) (by rfl) hS (fun wS hSw => ?_) #[true, true, true, true, true, true, false, false, false, false, false, false, false, false, false, false, false, false, false, false, false, false, false] rfl ?_; rotate_left
                  · have hc := cells_of hSw.2; go_simp; first | done | with_reducible rfl
                  (try simp only [Act.put, List.setIfInBounds_toArray, List.set_cons_zero, List.set_cons_succ])
                  refine h_take (v := ?_) 6 (some 92) rfl rfl (by kernel_rfl) (by kernel_rfl) (by kernel_rfl) (fun _ _ _ h => h) (by rfl) hS (fun wS hSw => ?_) #[true, true, true, true, true, true, true, false, false, false, false, false, false, false, false, false, false, false, false, false, false, false, false] rfl ?_; rotate_left
                  · clear hSw; go_simp; first | done | with_reducible rfl
                  (try simp only [Act.put, List.setIfInBounds_toArray, List.set_cons_zero, List.set_cons_succ])
                  refine h_take (v := ?_) 7 (some 93) rfl rfl (by kernel_rfl) (by kernel_rfl) (by kernel_rfl) (fun _ _ _ h => h) (by rfl) hS (fun wS hSw => ?_) #[true, true, true, true, true, true, true, true, false, false, false, false, false, false, false, false, false, false, false, false, false, false, false] rfl ?_; rotate_left
                  · clear hSw; go_simp; first | done | with_reducible rfl
                  (try simp only [Act.put, List.setIfInBounds_toArray, List.set_cons_zero, List.set_cons_succ])
                  refine h_take (v := ?_) 8 (some 94) rfl rfl (by kernel_rfl) (by kernel_rfl) (by kernel_rfl) (fun _ _ _ h => h) (by rfl) hS (fun wS hSw => ?_) #[true, true, true, true, true, true, true, true, true, false, false, false, false, false, false, false, false, false, false, false, false, false, false] rfl ?_; rotate_left
                  · clear hSw; go_simp; first | done | with_reducible rfl
                  (try simp only [Act.put, List.setIfInBounds_toArray, List.set_cons_zero, List.set_cons_succ])
                  refine h_take (v := ?_) 9 (some 95) rfl rfl (by kernel_rfl) (by kernel_rfl) (by kernel_rfl) (fun _ _ _ h => h) (by rfl) hS (fun wS hSw => ?_) #[true, true, true, true, true, true, true, true, true, true, false, false, false, false, false, false, false, false, false, false, false, false, false] rfl ?_; rotate_left
                  · clear hSw; go_simp; first | done | with_reducible rfl
                  (try simp only [Act.put, List.setIfInBounds_toArray, List.set_cons_zero, List.set_cons_succ])
                  refine h_take (v := ?_) 10 (some 96) rfl rfl (by kernel_rfl) (by kernel_rfl) (by kernel_rfl) (fun _ _ _ h => h) (by rfl) hS (fun wS hSw => ?_) #[true, true, true, true, true, true, true, true, true, true, true, false, false, false, false, false, false, false, false, false, false, false, false] rfl ?_; rotate_left
                  · clear hSw; go_simp; first | done | with_reducible rfl
                  (try simp only [Act.put, List.setIfInBounds_toArray, List.set_cons_zero, List.set_cons_succ])
                  refine h_take (v := ?_) 11 (some 97) rfl rfl (by kernel_rfl) (by kernel_rfl) (by kernel_rfl) (fun _ _ _ h => h) (by rfl) hS (fun wS hSw => ?_) #[true, true, true, true, true, true, true, true, true, true, true, true, false, false, false, false, false, false, false, false, false, false, false] rfl ?_; rotate_left
                  · clear hSw; go_simp; first | done | with_reducible rfl
                  (try simp only [Act.put, List.setIfInBounds_toArray, List.set_cons_zero, List.set_cons_succ])
                  refine h_take (v := ?_) 12 (some 98) rfl rfl (by kernel_rfl) (by kernel_rfl) (by kernel_rfl) (fun _ _ _ h => h) (by rfl) hS (fun wS hSw => ?_) #[true, true, true, true, true, true, true, true, true, true, true, true, true, false, false, false, false, false, false, false, false, false, false] rfl ?_; rotate_left
                  · clear hSw; go_simp; first | done | with_reducible rfl
                  (try simp only [Act.put, List.setIfInBounds_toArray, List.set_cons_zero, List.set_cons_succ])
                  refine h_take (v := ?_) 13 (some 99) rfl rfl (by kernel_rfl) (by kernel_rfl) (by kernel_rfl) (fun _ _ _ h => h) (by rfl) hS (fun wS hSw => ?_) #[true, true, true, true, true, true, true, true, true, true, true, true, true, true, false, false, false, false, false, false, false, false, false] rfl ?_; rotate_left
                  · have hc := cells_of hSw.2; go_simp; first | done | with_reducible rfl
                  (try simp only [Act.put, List.setIfInBounds_toArray, List.set_cons_zero, List.set_cons_succ])
                  refine h_take (v := ?_) 14 (some 100) rfl rfl (by kernel_rfl) (by kernel_rfl) (by kernel_rfl) (fun _ _ _ h => h) (by rfl) hS (fun wS hSw => ?_) #[true, true, true, true, true, true, true, true, true, true, true, true, true, true, true, false, false, false, false, false, false, false, false] rfl ?_; rotate_left
                  · have hc := cells_of hSw.2; go_simp; first | done | with_reducible rfl
                  (try simp only [Act.put, List.setIfInBounds_toArray, List.set_cons_zero, List.set_cons_succ])
                  refine h_take (v := ?_) 15 (some 101) rfl rfl (by kernel_rfl) (by kernel_rfl) (by kernel_rfl) (fun _ _ _ h => h) (by rfl) hS (fun wS hSw => ?_) #[true, true, true, true, true, true, true, true, true, true, true, true, true, true, true, true, false, false, false, false, false, false, false] rfl ?_; rotate_left
                  · clear hSw; go_simp; first | done | with_reducible rfl
                  (try simp only [Act.put, List.setIfInBounds_toArray, List.set_cons_zero, List.set_cons_succ])
                  refine h_take (v := ?_) 16 (some 102) rfl rfl (by kernel_rfl) (by kernel_rfl) (by kernel_rfl) (fun _ _ _ h => h) (by rfl) hS (fun wS hSw => ?_) #[true, true, true, true, true, true, true, true, true, true, true, true, true, true, true, true, true, false, false, false, false, false, false] rfl ?_; rotate_left
                  · clear hSw; go_simp; first | done | with_reducible rfl
                  (try simp only [Act.put, List.setIfInBounds_toArray, List.set_cons_zero, List.set_cons_succ])
                  refine h_take (v := ?_) 17 (some 103) rfl rfl (by kernel_rfl) (by kernel_rfl) (by kernel_rfl) (fun _ _ _ h => h) (by rfl) hS (fun wS hSw => ?_) #[true, true, true, true, true, true, true, true, true, true, true, true, true, true, true, true, true, true, false, false, false, false, false] rfl ?_; rotate_left
                  · clear hSw; go_simp; first | done | with_reducible rfl
                  (try simp only [Act.put, List.setIfInBounds_toArray, List.set_cons_zero, List.set_cons_succ])
                  refine h_take (v := ?_) 18 (some 104) rfl rfl (by kernel_rfl) (by kernel_rfl) (by kernel_rfl) (fun _ _ _ h => h) (by rfl) hS (fun wS hSw => ?_) #[true, true, true, true, true, true, true, true, true, true, true, true, true, true, true, true, true, true, true, false, false, false, false] rfl ?_; rotate_left
                  · have hc := cells_of hSw.2; go_simp; first | done | with_reducible rfl
                  (try simp only [Act.put, List.setIfInBounds_toArray, List.set_cons_zero, List.set_cons_succ])
                  refine h_take (v := ?_) 19 (some 105) rfl rfl (by kernel_rfl) (by kernel_rfl) (by kernel_rfl) (fun _ _ _ h => h) (by rfl) hS (fun wS hSw => ?_) #[true, true, true, true, true, true, true, true, true, true, true, true, true, true, true, true, true, true, true, true, false, false, false] rfl ?_; rotate_left
                  · have hc := cells_of hSw.2; go_simp; first | done | with_reducible rfl
                  (try simp only [Act.put, List.setIfInBounds_toArray, List.set_cons_zero, List.set_cons_succ])
                  refine h_take (v := ?_) 20 (some 106) rfl rfl (by kernel_rfl) (by kernel_rfl) (by kernel_rfl) (fun _ _ _ h => h) (by rfl) hS (fun wS hSw => ?_) #[true, true, true, true, true, true, true, true, true, true, true, true, true, true, true, true, true, true, true, true, true, false, false] rfl ?_; rotate_left
                  · clear hSw; go_simp; first | done | with_reducible rfl
                  (try simp only [Act.put, List.setIfInBounds_toArray, List.set_cons_zero, List.set_cons_succ])
                  refine h_take (v := ?_) 21 (some 107) rfl rfl (by kernel_rfl) (by kernel_rfl) (by kernel_rfl) (fun _ _ _ h => h) (by rfl) hS (fun wS hSw => ?_) #[true, true, true, true, true, true, true, true, true, true, true, true, true, true, true, true, true, true, true, true, true, true, false] rfl ?_; rotate_left
                  · clear hSw; go_simp; first | done | with_reducible rfl
                  (try simp only [Act.put, List.setIfInBounds_toArray, List.set_cons_zero, List.set_cons_succ])
                  refine h_take (v := ?_) 22 (some 108) rfl rfl (by kernel_rfl) (by kernel_rfl) (by kernel_rfl) (fun _ _ _ h => h) (by rfl) hS (fun wS hSw => ?_) #[true, true, true, true, true, true, true, true, true, true, true, true, true, true, true, true, true, true, true, true, true, true, true] rfl ?_; rotate_left
                  · clear hSw; go_simp; first | done | with_reducible rfl
                  (try simp only [Act.put, List.setIfInBounds_toArray, List.set_cons_zero, List.set_cons_succ])
                  refine wpAnyH_done (by kernel_rfl) ?_ _
                  have st := hS.1
                  have hbq := hbq.stay hS.2
                  have hown1 := hown1.stay hS.2
                  clear hS
                  go_wp2_with fail
                  go_meet
                  case rel => exact ⟨rfl, hown1, hbq, st⟩
                · have hk0 : decide (0 < k) = false := by simpa using hk0
                  clear hA1
                  generalize L.getD k 0 = z at *
                  go_wp2_with fail
                  have hS : St w wr.drew w.heap.size x F ∧ Below wr.heap.size wr wr.drew := ⟨st.drew, (Below.refl _ _).drew⟩
                  refine h_begin (S := fun w' => St w w' w.heap.size x F ∧ Below wr.heap.size wr w') 23 #[false, false, false, false, false, false, false, false, false, false, false, false, false, false, false, false, false, false, false, false, false, false, false] rfl rfl ?_
                  refine h_take (v := ?_) 0 (some 86) rfl rfl (by kernel_rfl) (by kernel_rfl) (by kernel_rfl) (fun _ _ _ h => h) (by rfl) hS (fun wS hSw => ?_) #[true, false, false, false, false, false, false, false, false, false, false, false, false, false, false, false, false, false, false, false, false, false, false] rfl ?_; rotate_left
                  · clear hSw; go_simp; first | done | with_reducible rfl
                  (try simp only [Act.put, List.setIfInBounds_toArray, List.set_cons_zero, List.set_cons_succ])
                  refine h_take (v := ?_) 1 (some 87) rfl rfl (by kernel_rfl) (by kernel_rfl) (by kernel_rfl) (fun _ _ _ h => h) (by rfl) hS (fun wS hSw => ?_) #[true, true, false, false, false, false, false, false, false, false, false, false, false, false, false, false, false, false, false, false, false, false, false] rfl ?_; rotate_left
                  · clear hSw; go_simp; first | done | with_reducible rfl
                  (try simp only [Act.put, List.setIfInBounds_toArray, List.set_cons_zero, List.set_cons_succ])
                  refine h_take (v := ?_) 2 (some 88) rfl rfl (by kernel_rfl) (by kernel_rfl) (by kernel_rfl) (fun _ _ _ h => h) (by rfl) hS (fun wS hSw => ?_) #[true, true, true, false, false, false, false, false, false, false, false, false, false, false, false, false, false, false, false, false, false, false, false] rfl ?_; rotate_left
                  · have hc := cells_of hSw.2; go_simp; first | done | with_reducible rfl
                  (try simp only [Act.put, List.setIfInBounds_toArray, List.set_cons_zero, List.set_cons_succ])
                  refine h_take (v := ?_) 3 (some 89) rfl rfl (by kernel_rfl) (by kernel_rfl) (by kernel_rfl) (fun _ _ _ h => h) (by rfl) hS (fun wS hSw => ?_) #[true, true, true, true, false, false, false, false, false, false, false, false, false, false, false, false, false, false, false, false, false, false, false] rfl ?_; rotate_left
                  · have hc := cells_of hSw.2; go_simp; first | done | with_reducible rfl
                  (try simp only [Act.put, List.setIfInBounds_toArray, List.set_cons_zero, List.set_cons_succ])
                  refine h_take (v := ?_) 4 (some 90) rfl rfl (by kernel_rfl) (by kernel_rfl) (by kernel_rfl) (fun _ _ _ h => h) (by rfl) hS (fun wS hSw => ?_) #[true, true, true, true, true, false, false, false, false, false, false, false, false, false, false, false, false, false, false, false, false, false, false] rfl ?_; rotate_left
                  · clear hSw; go_simp; first | done | with_reducible rfl
                  (try simp only [Act.put, List.setIfInBounds_toArray, List.set_cons_zero, List.set_cons_succ])
                  refine h_take (v := ?_) 5 (some 91) rfl rfl (by kernel_rfl) (by kernel_rfl) (by kernel_rfl) (fun _ _ _ h => h) (by rfl) hS (fun wS hSw => ?_) #[true, true, true, true, true, true, false, false, false, false, false, false, false, false, false, false, false, false, false, false, false, false, false] rfl ?_; rotate_left
                  · have hc := cells_of hSw.2; go_simp; first | done | with_reducible rfl
                  (try simp only [Act.put, List.setIfInBounds_toArray, List.set_cons_zero, List.set_cons_succ])
                  refine h_take (v := ?_) 6 (some 92) rfl rfl (by kernel_rfl) (by kernel_rfl) (by kernel_rfl) (fun _ _ _ h => h) (by rfl) hS (fun wS hSw => ?_) #[true, true, true, true, true, true, true, false, false, false, false, false, false, false, false, false, false, false, false, false, false, false, false] rfl ?_; rotate_left
                  · clear hSw; go_simp; first | done | with_reducible rfl
                  (try simp only [Act.put, List.setIfInBounds_toArray, List.set_cons_zero, List.set_cons_succ])
                  refine h_take (v := ?_) 7 (some 93) rfl rfl (by kernel_rfl) (by kernel_rfl) (by kernel_rfl) (fun _ _ _ h => h) (by rfl) hS (fun wS hSw => ?_) #[true, true, true, true, true, true, true, true, false, false, false, false, false, false, false, false, false, false, false, false, false, false, false] rfl ?_; rotate_left
                  · clear hSw; go_simp; first | done | with_reducible rfl
                  (try simp only [Act.put, List.setIfInBounds_toArray, List.set_cons_zero, List.set_cons_succ])
                  refine h_take (v := ?_) 8 (some 94) rfl rfl (by kernel_rfl) (by kernel_rfl) (by kernel_rfl) (fun _ _ _ h => h) (by rfl) hS (fun wS hSw => ?_) #[true, true, true, true, true, true, true, true, true, false, false, false, false, false, false, false, false, false, false, false, false, false, false] rfl ?_; rotate_left
                  · clear hSw; go_simp; first | done | with_reducible rfl
                  (try simp only [Act.put, List.setIfInBounds_toArray, List.set_cons_zero, List.set_cons_succ])
                  refine h_take (v := ?_) 9 (some 95) rfl rfl (by kernel_rfl) (by kernel_rfl) (by kernel_rfl) (fun _ _ _ h => h) (by rfl) hS (fun wS hSw => ?_) #[true, true, true, true, true, true, true, true, true, true, false, false, false, false, false, false, false, false, false, false, false, false, false] rfl ?_; rotate_left
                  · clear hSw; go_simp; first | done | with_reducible rfl
                  (try simp only [Act.put, List.setIfInBounds_toArray, List.set_cons_zero, List.set_cons_succ])
                  refine h_take (v := ?_) 10 (some 96) rfl rfl (by kernel_rfl) (by kernel_rfl) (by kernel_rfl) (fun _ _ _ h => h) (by rfl) hS (fun wS hSw => ?_) #[true, true, true, true, true, true, true, true, true, true, true, false, false, false, false, false, false, false, false, false, false, false, false] rfl ?_; rotate_left
                  · clear hSw; go_simp; first | done | with_reducible rfl
                  (try simp only [Act.put, List.setIfInBounds_toArray, List.set_cons_zero, List.set_cons_succ])
                  refine h_skip 11 (some 97) rfl rfl (by kernel_rfl) (by kernel_rfl) (by kernel_rfl) (fun _ _ _ h => h) (by rfl) hS #[true, true, true, true, true, true, true, true, true, true, true, true, false, false, false, false, false, false, false, false, false, false, false] rfl ?_
                  (try simp only [Act.put, List.setIfInBounds_toArray, List.set_cons_zero, List.set_cons_succ])
                  refine h_skip 12 (some 98) rfl rfl (by kernel_rfl) (by kernel_rfl) (by kernel_rfl) (fun _ _ _ h => h) (by rfl) hS #[true, true, true, true, true, true, true, true, true, true, true, true, true, false, false, false, false, false, false, false, false, false, false] rfl ?_
                  (try simp only [Act.put, List.setIfInBounds_toArray, List.set_cons_zero, List.set_cons_succ])
                  refine h_skip 13 (some 99) rfl rfl (by kernel_rfl) (by kernel_rfl) (by kernel_rfl) (fun _ _ _ h => h) (by rfl) hS #[true, true, true, true, true, true, true, true, true, true, true, true, true, true, false, false, false, false, false, false, false, false, false] rfl ?_
                  (try simp only [Act.put, List.setIfInBounds_toArray, List.set_cons_zero, List.set_cons_succ])
                  refine h_skip 14 (some 100) rfl rfl (by kernel_rfl) (by kernel_rfl) (by kernel_rfl) (fun _ _ _ h => h) (by rfl) hS #[true, true, true, true, true, true, true, true, true, true, true, true, true, true, true, false, false, false, false, false, false, false, false] rfl ?_
                  (try simp only [Act.put, List.setIfInBounds_toArray, List.set_cons_zero, List.set_cons_succ])
                  refine h_skip 15 (some 101) rfl rfl (by kernel_rfl) (by kernel_rfl) (by kernel_rfl) (fun _ _ _ h => h) (by rfl) hS #[true, true, true, true, true, true, true, true, true, true, true, true, true, true, true, true, false, false, false, false, false, false, false] rfl ?_
                  (try simp only [Act.put, List.setIfInBounds_toArray, List.set_cons_zero, List.set_cons_succ])
                  refine h_skip 16 (some 102) rfl rfl (by kernel_rfl) (by kernel_rfl) (by kernel_rfl) (fun _ _ _ h => h) (by rfl) hS #[true, true, true, true, true, true, true, true, true, true, true, true, true, true, true, true, true, false, false, false, false, false, false] rfl ?_
                  (try simp only [Act.put, List.setIfInBounds_toArray, List.set_cons_zero, List.set_cons_succ])
                  refine h_skip 17 (some 103) rfl rfl (by kernel_rfl) (by kernel_rfl) (by kernel_rfl) (fun _ _ _ h => h) (by rfl) hS #[true, true, true, true, true, true, true, true, true, true, true, true, true, true, true, true, true, true, false, false, false, false, false] rfl ?_
                  (try simp only [Act.put, List.setIfInBounds_toArray, List.set_cons_zero, List.set_cons_succ])
                  refine h_skip 18 (some 104) rfl rfl (by kernel_rfl) (by kernel_rfl) (by kernel_rfl) (fun _ _ _ h => h) (by rfl) hS #[true, true, true, true, true, true, true, true, true, true, true, true, true, true, true, true, true, true, true, false, false, false, false] rfl ?_
                  (try simp only [Act.put, List.setIfInBounds_toArray, List.set_cons_zero, List.set_cons_succ])
                  refine h_skip 19 (some 105) rfl rfl (by kernel_rfl) (by kernel_rfl) (by kernel_rfl) (fun _ _ _ h => h) (by rfl) hS #[true, true, true, true, true, true, true, true, true, true, true, true, true, true, true, true, true, true, true, true, false, false, false] rfl ?_
                  (try simp only [Act.put, List.setIfInBounds_toArray, List.set_cons_zero, List.set_cons_succ])
                  refine h_skip 20 (some 106) rfl rfl (by kernel_rfl) (by kernel_rfl) (by kernel_rfl) (fun _ _ _ h => h) (by rfl) hS #[true, true, true, true, true, true, true, true, true, true, true, true, true, true, true, true, true, true, true, true, true, false, false] rfl ?_
                  (try simp only [Act.put, List.setIfInBounds_toArray, List.set_cons_zero, List.set_cons_succ])
                  refine h_take (v := ?_) 21 (some 107) rfl rfl (by kernel_rfl) (by kernel_rfl) (by kernel_rfl) (fun _ _ _ h => h) (by rfl) hS (fun wS hSw => ?_) #[true, true, true, true, true, true, true, true, true, true, true, true, true, true, true, true, true, true, true, true, true, true, false] rfl ?_; rotate_left
                  · clear hSw; go_simp; first | done | with_reducible rfl
                  (try simp only [Act.put, List.setIfInBounds_toArray, List.set_cons_zero, List.set_cons_succ])
                  refine h_take (v := ?_) 22 (some 108) rfl rfl (by kernel_rfl) (by kernel_rfl) (by kernel_rfl) (fun _ _ _ h => h) (by rfl) hS (fun wS hSw => ?_) #[true, true, true, true, true, true, true, true, true, true, true, true, true, true, true, true, true, true, true, true, true, true, true] rfl ?_; rotate_left
                  · clear hSw; go_simp; first | done | with_reducible rfl
                  (try simp only [Act.put, List.setIfInBounds_toArray, List.set_cons_zero, List.set_cons_succ])
                  refine wpAnyH_done (by kernel_rfl) ?_ _
                  have st := hS.1
                  have hbq := hbq.stay hS.2
                  have hown1 := hown1.stay hS.2
                  clear hS
                  go_wp2_with fail
                  go_meet
                  case rel => exact ⟨rfl, hown1, hbq, st⟩
              case rest =>
                clear hown1 hbq st q0 q1 q2 hql ho h14 hxl hix hB h0 hA1
                obtain ⟨rfl, hown1, hbq, st⟩ := hcut
                have ho := st.old
                have h14 := st.c14
                have q0 := (hbq.cell 0).trans rfl; have q1 := (hbq.cell 1).trans rfl; have q2 := (hbq.cell 2).trans rfl; have hql := hbq.lt; 
                have hxl := st.bx.lt
                obtain ⟨B, off, hA1, -, hB, h0⟩ := hown1.row.int_at hlt
                have hix := ix32 hA1 hlt c1
                clear hA1
                generalize hzk : L.getD k 0 = z at *
                replace hzk := Lib.hid hzk
                go_wp2_with fail
                have hS : St w wc.drew w.heap.size x F ∧ Below wc.heap.size wc wc.drew := ⟨st.drew, (Below.refl _ _).drew⟩
                refine h_begin (S := fun w' => St w w' w.heap.size x F ∧ Below wc.heap.size wc w') 9 #[false, false, false, false, false, false, false, false, false] rfl rfl ?_
                refine h_take (v := ?_) 0 (some 109) rfl rfl (by kernel_rfl) (by kernel_rfl) (by kernel_rfl) (fun _ _ _ h => h) (by rfl) hS (fun wS hSw => ?_) #[true, false, false, false, false, false, false, false, false] rfl ?_; rotate_left
                · refine run_ld30 _ (.tmp 2) ?_ ?_ hSw.1.bx <;> rfl
                (try simp only [Act.put, List.setIfInBounds_toArray, List.set_cons_zero, List.set_cons_succ])
                refine h_take (v := ?_) 1 (some 110) rfl rfl (by kernel_rfl) (by kernel_rfl) (by kernel_rfl) (fun _ _ _ h => h) (by rfl) hS (fun wS hSw => ?_) #[true, true, false, false, false, false, false, false, false] rfl ?_; rotate_left
                · clear hSw; go_simp; first | done | with_reducible rfl
                (try simp only [Act.put, List.setIfInBounds_toArray, List.set_cons_zero, List.set_cons_succ])
                refine h_take (v := ?_) 2 (some 111) rfl rfl (by kernel_rfl) (by kernel_rfl) (by kernel_rfl) (fun _ _ _ h => h) (by rfl) hS (fun wS hSw => ?_) #[true, true, true, false, false, false, false, false, false] rfl ?_; rotate_left
                · have hc := cells_of hSw.2; go_simp; first | done | with_reducible rfl
                (try simp only [Act.put, List.setIfInBounds_toArray, List.set_cons_zero, List.set_cons_succ])
                refine h_take (v := ?_) 3 (some 112) rfl rfl (by kernel_rfl) (by kernel_rfl) (by kernel_rfl) (fun _ _ _ h => h) (by rfl) hS (fun wS hSw => ?_) #[true, true, true, true, false, false, false, false, false] rfl ?_; rotate_left
                · clear hSw; go_simp; first | done | with_reducible rfl
                (try simp only [Act.put, List.setIfInBounds_toArray, List.set_cons_zero, List.set_cons_succ])
                refine h_take (v := ?_) 4 (some 113) rfl rfl (by kernel_rfl) (by kernel_rfl) (by kernel_rfl) (fun _ _ _ h => h) (by rfl) hS (fun wS hSw => ?_) #[true, true, true, true, true, false, false, false, false] rfl ?_; rotate_left
                · clear hSw; go_simp; first | done | with_reducible rfl
                (try simp only [Act.put, List.setIfInBounds_toArray, List.set_cons_zero, List.set_cons_succ])
                refine h_take (v := ?_) 5 (some 114) rfl rfl (by kernel_rfl) (by kernel_rfl) (by kernel_rfl) (fun _ _ _ h => h) (by rfl) hS (fun wS hSw => ?_) #[true, true, true, true, true, true, false, false, false] rfl ?_; rotate_left
                · have hc := cells_of hSw.2; go_simp; first | done | with_reducible rfl
                (try simp only [Act.put, List.setIfInBounds_toArray, List.set_cons_zero, List.set_cons_succ])
                refine h_take (v := ?_) 6 (some 115) rfl rfl (by kernel_rfl) (by kernel_rfl) (by kernel_rfl) (fun _ _ _ h => h) (by rfl) hS (fun wS hSw => ?_) #[true, true, true, true, true, true, true, false, false] rfl ?_; rotate_left
                · have hc := cells_of hSw.2; go_simp; first | done | with_reducible rfl
                (try simp only [Act.put, List.setIfInBounds_toArray, List.set_cons_zero, List.set_cons_succ])
                refine h_call 7 (some 116) (by kernel_rfl) rfl rfl (by rfl) #[true, true, true, true, true, true, true, true, false] rfl (by go_simp; exact ⟨rfl, rfl⟩) ?_
                refine (ways_any x F R rs rc z _ (St.fn hS.1 hF) (St.row hS.1 hR) (by omega) (by omega)).mono ?_
                rintro e wn ⟨A2, c2, rfl, hown2, hbn⟩
                refine ⟨_, rfl, ?_, ?_⟩
                · exact ⟨St.next hS.1 hbn, hS.2.trans (hbn.mono hS.2.size)⟩
                have hS : _ ∧ _ := ⟨St.next hS.1 hbn, hS.2.trans (hbn.mono hS.2.size)⟩
                (try simp only [Act.put, List.setIfInBounds_toArray, List.set_cons_zero, List.set_cons_succ])
                refine h_take (v := ?_) 8 (some 8) rfl rfl (by kernel_rfl) (by kernel_rfl) (by kernel_rfl) (fun _ _ _ h => h) (by rfl) hS (fun wS hSw => ?_) #[true, true, true, true, true, true, true, true, true] rfl ?_; rotate_left
                · clear hSw; go_simp; first | done | with_reducible rfl
                (try simp only [Act.put, List.setIfInBounds_toArray, List.set_cons_zero, List.set_cons_succ])
                refine wpAnyH_done (by kernel_rfl) ?_ _
                have st := hS.1
                have hbq := hbq.stay hS.2
                have hown1 := hown1.stay hS.2
                have hown2 := hown2.lower (Nat.zero_le _)
                have hws := Fn.ways_length F rs z
                have hway := Lib.hid (fun y h1 h2 => hLway.out z y hmem.out h1 h2)
                generalize hWe : F.ways rs z = ws at *
                have HWe := Lib.hid hWe
                clear hWe hS hix h0 hB q0 q1 q2 hql ho h14 hxl
                go_wp2
                go_loopg [9] ws.length (fun g s wr => ∃ (m : Nat), m ≤ ws.length ∧ g = ws.length - m ∧ s = .int .i64 m ∧ Own wr 0 A2 c2 ws ∧ Own wr 0 A1 c1 L ∧ Bk wr w1.heap.size 34 #[.slice R rs.length rc, .slice A from_.length ac, .int .i64 stop] ∧ St w wr w.heap.size x F)
                case atStart => exact ⟨0, Nat.zero_le _, rfl, rfl, hown2, hown1, hbq, st⟩
                case round =>
                  clear hown1 hown2 hbq st
                  obtain ⟨m, hm, rfl, rfl, hown2, hown1, hbq, st⟩ := hrel
                  have ho := st.old
                  have h14 := st.c14
                  have q0 := (hbq.cell 0).trans rfl; have q1 := (hbq.cell 1).trans rfl; have q2 := (hbq.cell 2).trans rfl; have hql := hbq.lt; 
                  have hxl := st.bx.lt
                  by_cases hlt2 : m < ws.length
                  · obtain ⟨B, off, hA1, -, hB, h0⟩ := hown2.row.int_at hlt2
                    have hix := ix32 hA1 hlt2 c2
                    have hin1 := Lib.hid (hway.out _ (getD_mem hlt2))
                    clear hA1
                    generalize ws.getD m 0 = u at *
                    by_cases hst : (u != stop) = true
                    · have hin : u ∈ L := hin1.out (by simpa using hst)
                      go_wp2_with fail
                      have hS : St w wr.drew w.heap.size x F ∧ Below wr.heap.size wr wr.drew := ⟨st.drew, (Below.refl _ _).drew⟩
                      refine h_begin (S := fun w' => St w w' w.heap.size x F ∧ Below wr.heap.size wr w') 16 #[false, false, false, false, false, false, false, false, false, false, false, false, false, false, false, false] rfl rfl ?_
                      refine h_take (v := ?_) 0 (some 123) rfl rfl (by kernel_rfl) (by kernel_rfl) (by kernel_rfl) (fun _ _ _ h => h) (by rfl) hS (fun wS hSw => ?_) #[true, false, false, false, false, false, false, false, false, false, false, false, false, false, false, false] rfl ?_; rotate_left
                      · clear hSw; go_simp; first | done | with_reducible rfl
                      (try simp only [Act.put, List.setIfInBounds_toArray, List.set_cons_zero, List.set_cons_succ])
                      refine h_take (v := ?_) 1 (some 124) rfl rfl (by kernel_rfl) (by kernel_rfl) (by kernel_rfl) (fun _ _ _ h => h) (by rfl) hS (fun wS hSw => ?_) #[true, true, false, false, false, false, false, false, false, false, false, false, false, false, false, false] rfl ?_; rotate_left
                      · clear hSw; go_simp; first | done | with_reducible rfl
                      (try simp only [Act.put, List.setIfInBounds_toArray, List.set_cons_zero, List.set_cons_succ])
                      refine h_take (v := ?_) 2 (some 125) rfl rfl (by kernel_rfl) (by kernel_rfl) (by kernel_rfl) (fun _ _ _ h => h) (by rfl) hS (fun wS hSw => ?_) #[true, true, true, false, false, false, false, false, false, false, false, false, false, false, false, false] rfl ?_; rotate_left
                      · have hc := cells_of hSw.2; go_simp; first | done | with_reducible rfl
                      (try simp only [Act.put, List.setIfInBounds_toArray, List.set_cons_zero, List.set_cons_succ])
                      refine h_take (v := ?_) 3 (some 126) rfl rfl (by kernel_rfl) (by kernel_rfl) (by kernel_rfl) (fun _ _ _ h => h) (by rfl) hS (fun wS hSw => ?_) #[true, true, true, true, false, false, false, false, false, false, false, false, false, false, false, false] rfl ?_; rotate_left
                      · have hc := cells_of hSw.2; go_simp; first | done | with_reducible rfl
                      (try simp only [Act.put, List.setIfInBounds_toArray, List.set_cons_zero, List.set_cons_succ])
                      refine h_take (v := ?_) 4 (some 127) rfl rfl (by kernel_rfl) (by kernel_rfl) (by kernel_rfl) (fun _ _ _ h => h) (by rfl) hS (fun wS hSw => ?_) #[true, true, true, true, true, false, false, false, false, false, false, false, false, false, false, false] rfl ?_; rotate_left
                      · clear hSw; go_simp; first | done | with_reducible rfl
                      (try simp only [Act.put, List.setIfInBounds_toArray, List.set_cons_zero, List.set_cons_succ])
                      refine h_take (v := ?_) 5 (some 128) rfl rfl (by kernel_rfl) (by kernel_rfl) (by kernel_rfl) (fun _ _ _ h => h) (by rfl) hS (fun wS hSw => ?_) #[true, true, true, true, true, true, false, false, false, false, false, false, false, false, false, false] rfl ?_; rotate_left
                      · have hc := cells_of hSw.2; go_simp; first | done | with_reducible rfl
                      (try simp only [Act.put, List.setIfInBounds_toArray, List.set_cons_zero, List.set_cons_succ])
                      refine h_take (v := ?_) 6 (some 129) rfl rfl (by kernel_rfl) (by kernel_rfl) (by kernel_rfl) (fun _ _ _ h => h) (by rfl) hS (fun wS hSw => ?_) #[true, true, true, true, true, true, true, false, false, false, false, false, false, false, false, false] rfl ?_; rotate_left
                      · clear hSw; go_simp; first | done | with_reducible rfl
                      (try simp only [Act.put, List.setIfInBounds_toArray, List.set_cons_zero, List.set_cons_succ])
                      refine h_take (v := ?_) 7 (some 130) rfl rfl (by kernel_rfl) (by kernel_rfl) (by kernel_rfl) (fun _ _ _ h => h) (by rfl) hS (fun wS hSw => ?_) #[true, true, true, true, true, true, true, true, false, false, false, false, false, false, false, false] rfl ?_; rotate_left
                      · clear hSw; go_simp; first | done | with_reducible rfl
                      (try simp only [Act.put, List.setIfInBounds_toArray, List.set_cons_zero, List.set_cons_succ])
                      refine h_take (v := ?_) 8 (some 131) rfl rfl (by kernel_rfl) (by kernel_rfl) (by kernel_rfl) (fun _ _ _ h => h) (by rfl) hS (fun wS hSw => ?_) #[true, true, true, true, true, true, true, true, true, false, false, false, false, false, false, false] rfl ?_; rotate_left
                      · clear hSw; go_simp; first | done | with_reducible rfl
                      (try simp only [Act.put, List.setIfInBounds_toArray, List.set_cons_zero, List.set_cons_succ])
                      refine h_take (v := ?_) 9 (some 132) rfl rfl (by kernel_rfl) (by kernel_rfl) (by kernel_rfl) (fun _ _ _ h => h) (by rfl) hS (fun wS hSw => ?_) #[true, true, true, true, true, true, true, true, true, true, false, false, false, false, false, false] rfl ?_; rotate_left
                      · clear hSw; go_simp; first | done | with_reducible rfl
                      (try simp only [Act.put, List.setIfInBounds_toArray, List.set_cons_zero, List.set_cons_succ])
                      refine h_take (v := ?_) 10 (some 133) rfl rfl (by kernel_rfl) (by kernel_rfl) (by kernel_rfl) (fun _ _ _ h => h) (by rfl) hS (fun wS hSw => ?_) #[true, true, true, true, true, true, true, true, true, true, true, false, false, false, false, false] rfl ?_; rotate_left
                      · clear hSw; go_simp; first | done | with_reducible rfl
                      (try simp only [Act.put, List.setIfInBounds_toArray, List.set_cons_zero, List.set_cons_succ])
                      refine h_take (v := ?_) 11 (some 134) rfl rfl (by kernel_rfl) (by kernel_rfl) (by kernel_rfl) (fun _ _ _ h => h) (by rfl) hS (fun wS hSw => ?_) #[true, true, true, true, true, true, true, true, true, true, true, true, false, false, false, false] rfl ?_; rotate_left
                      · have hc := cells_of hSw.2; go_simp; first | done | with_reducible rfl
                      (try simp only [Act.put, List.setIfInBounds_toArray, List.set_cons_zero, List.set_cons_succ])
                      refine h_take (v := ?_) 12 (some 135) rfl rfl (by kernel_rfl) (by kernel_rfl) (by kernel_rfl) (fun _ _ _ h => h) (by rfl) hS (fun wS hSw => ?_) #[true, true, true, true, true, true, true, true, true, true, true, true, true, false, false, false] rfl ?_; rotate_left
                      · have hc := cells_of hSw.2; go_simp; first | done | with_reducible rfl
                      (try simp only [Act.put, List.setIfInBounds_toArray, List.set_cons_zero, List.set_cons_succ])
                      refine h_call 13 (some 136) (by kernel_rfl) rfl rfl (by rfl) #[true, true, true, true, true, true, true, true, true, true, true, true, true, true, false, false] rfl (by go_simp; exact ⟨rfl, rfl⟩) ?_
                      refine (in_any A1 L c1 _ _ (Row.lower (Own.row (Own.stay hown1 hS.2)) (Nat.zero_le _)) (by omega)).mono ?_
                      rintro e wn ⟨rfl, hbn⟩
                      refine ⟨_, rfl, ?_, ?_⟩
                      · exact ⟨St.next hS.1 hbn, hS.2.trans (hbn.mono hS.2.size)⟩
                      have hS : _ ∧ _ := ⟨St.next hS.1 hbn, hS.2.trans (hbn.mono hS.2.size)⟩
                      (try simp only [Act.put, List.setIfInBounds_toArray, List.set_cons_zero, List.set_cons_succ, hin])
                      refine h_take (v := ?_) 14 (some 137) rfl rfl (by kernel_rfl) (by kernel_rfl) (by kernel_rfl) (fun _ _ _ h => h) (by rfl) hS (fun wS hSw => ?_) #[true, true, true, true, true, true, true, true, true, true, true, true, true, true, true, false] rfl ?_; rotate_left
                      · clear hSw; go_simp; first | done | with_reducible rfl
                      (try simp only [Act.put, List.setIfInBounds_toArray, List.set_cons_zero, List.set_cons_succ])
                      refine h_take (v := ?_) 15 (some 138) rfl rfl (by kernel_rfl) (by kernel_rfl) (by kernel_rfl) (fun _ _ _ h => h) (by rfl) hS (fun wS hSw => ?_) #[true, true, true, true, true, true, true, true, true, true, true, true, true, true, true, true] rfl ?_; rotate_left
                      · clear hSw; go_simp; first | done | with_reducible rfl
                      (try simp only [Act.put, List.setIfInBounds_toArray, List.set_cons_zero, List.set_cons_succ])
                      refine wpAnyH_done (by kernel_rfl) ?_ _
                      have st := hS.1
                      have hbq := hbq.stay hS.2
                      have hown1 := hown1.stay hS.2
                      have hown2 := hown2.stay hS.2
                      clear hS
                      go_wp2
                      go_roundg (ws.length - (m + 1))
                      case measure => omega
                      case rel => exact ⟨m + 1, by omega, rfl, by go_num, hown2, hown1, hbq, st⟩
                    · have hst : (u != stop) = false := by simpa using hst
                      go_wp2_with fail
                      have hS : St w wr.drew w.heap.size x F ∧ Below wr.heap.size wr wr.drew := ⟨st.drew, (Below.refl _ _).drew⟩
                      refine h_begin (S := fun w' => St w w' w.heap.size x F ∧ Below wr.heap.size wr w') 16 #[false, false, false, false, false, false, false, false, false, false, false, false, false, false, false, false] rfl rfl ?_
                      refine h_take (v := ?_) 0 (some 123) rfl rfl (by kernel_rfl) (by kernel_rfl) (by kernel_rfl) (fun _ _ _ h => h) (by rfl) hS (fun wS hSw => ?_) #[true, false, false, false, false, false, false, false, false, false, false, false, false, false, false, false] rfl ?_; rotate_left
                      · clear hSw; go_simp; first | done | with_reducible rfl
                      (try simp only [Act.put, List.setIfInBounds_toArray, List.set_cons_zero, List.set_cons_succ])
                      refine h_take (v := ?_) 1 (some 124) rfl rfl (by kernel_rfl) (by kernel_rfl) (by kernel_rfl) (fun _ _ _ h => h) (by rfl) hS (fun wS hSw => ?_) #[true, true, false, false, false, false, false, false, false, false, false, false, false, false, false, false] rfl ?_; rotate_left
                      · clear hSw; go_simp; first | done | with_reducible rfl
                      (try simp only [Act.put, List.setIfInBounds_toArray, List.set_cons_zero, List.set_cons_succ])
                      refine h_take (v := ?_) 2 (some 125) rfl rfl (by kernel_rfl) (by kernel_rfl) (by kernel_rfl) (fun _ _ _ h => h) (by rfl) hS (fun wS hSw => ?_) #[true, true, true, false, false, false, false, false, false, false, false, false, false, false, false, false] rfl ?_; rotate_left
                      · have hc := cells_of hSw.2; go_simp; first | done | with_reducible rfl
                      (try simp only [Act.put, List.setIfInBounds_toArray, List.set_cons_zero, List.set_cons_succ])
                      refine h_take (v := ?_) 3 (some 126) rfl rfl (by kernel_rfl) (by kernel_rfl) (by kernel_rfl) (fun _ _ _ h => h) (by rfl) hS (fun wS hSw => ?_) #[true, true, true, true, false, false, false, false, false, false, false, false, false, false, false, false] rfl ?_; rotate_left
                      · have hc := cells_of hSw.2; go_simp; first | done | with_reducible rfl
                      (try simp only [Act.put, List.setIfInBounds_toArray, List.set_cons_zero, List.set_cons_succ])
                      refine h_take (v := ?_) 4 (some 127) rfl rfl (by kernel_rfl) (by kernel_rfl) (by kernel_rfl) (fun _ _ _ h => h) (by rfl) hS (fun wS hSw => ?_) #[true, true, true, true, true, false, false, false, false, false, false, false, false, false, false, false] rfl ?_; rotate_left
                      · clear hSw; go_simp; first | done | with_reducible rfl
                      (try simp only [Act.put, List.setIfInBounds_toArray, List.set_cons_zero, List.set_cons_succ])
                      refine h_take (v := ?_) 5 (some 128) rfl rfl (by kernel_rfl) (by kernel_rfl) (by kernel_rfl) (fun _ _ _ h => h) (by rfl) hS (fun wS hSw => ?_) #[true, true, true, true, true, true, false, false, false, false, false, false, false, false, false, false] rfl ?_; rotate_left
                      · have hc := cells_of hSw.2; go_simp; first | done | with_reducible rfl
                      (try simp only [Act.put, List.setIfInBounds_toArray, List.set_cons_zero, List.set_cons_succ])
                      refine h_take (v := ?_) 6 (some 129) rfl rfl (by kernel_rfl) (by kernel_rfl) (by kernel_rfl) (fun _ _ _ h => h) (by rfl) hS (fun wS hSw => ?_) #[true, true, true, true, true, true, true, false, false, false, false, false, false, false, false, false] rfl ?_; rotate_left
                      · clear hSw; go_simp; first | done | with_reducible rfl
                      (try simp only [Act.put, List.setIfInBounds_toArray, List.set_cons_zero, List.set_cons_succ])
                      refine h_take (v := ?_) 7 (some 130) rfl rfl (by kernel_rfl) (by kernel_rfl) (by kernel_rfl) (fun _ _ _ h => h) (by rfl) hS (fun wS hSw => ?_) #[true, true, true, true, true, true, true, true, false, false, false, false, false, false, false, false] rfl ?_; rotate_left
                      · clear hSw; go_simp; first | done | with_reducible rfl
                      (try simp only [Act.put, List.setIfInBounds_toArray, List.set_cons_zero, List.set_cons_succ])
                      refine h_skip 8 (some 131) rfl rfl (by kernel_rfl) (by kernel_rfl) (by kernel_rfl) (fun _ _ _ h => h) (by rfl) hS #[true, true, true, true, true, true, true, true, true, false, false, false, false, false, false, false] rfl ?_
                      (try simp only [Act.put, List.setIfInBounds_toArray, List.set_cons_zero, List.set_cons_succ])
                      refine h_skip 9 (some 132) rfl rfl (by kernel_rfl) (by kernel_rfl) (by kernel_rfl) (fun _ _ _ h => h) (by rfl) hS #[true, true, true, true, true, true, true, true, true, true, false, false, false, false, false, false] rfl ?_
                      (try simp only [Act.put, List.setIfInBounds_toArray, List.set_cons_zero, List.set_cons_succ])
                      refine h_skip 10 (some 133) rfl rfl (by kernel_rfl) (by kernel_rfl) (by kernel_rfl) (fun _ _ _ h => h) (by rfl) hS #[true, true, true, true, true, true, true, true, true, true, true, false, false, false, false, false] rfl ?_
                      (try simp only [Act.put, List.setIfInBounds_toArray, List.set_cons_zero, List.set_cons_succ])
                      refine h_skip 11 (some 134) rfl rfl (by kernel_rfl) (by kernel_rfl) (by kernel_rfl) (fun _ _ _ h => h) (by rfl) hS #[true, true, true, true, true, true, true, true, true, true, true, true, false, false, false, false] rfl ?_
                      (try simp only [Act.put, List.setIfInBounds_toArray, List.set_cons_zero, List.set_cons_succ])
                      refine h_skip 12 (some 135) rfl rfl (by kernel_rfl) (by kernel_rfl) (by kernel_rfl) (fun _ _ _ h => h) (by rfl) hS #[true, true, true, true, true, true, true, true, true, true, true, true, true, false, false, false] rfl ?_
                      (try simp only [Act.put, List.setIfInBounds_toArray, List.set_cons_zero, List.set_cons_succ])
                      refine h_skip 13 (some 136) rfl rfl (by kernel_rfl) (by kernel_rfl) (by kernel_rfl) (fun _ _ _ h => h) (by rfl) hS #[true, true, true, true, true, true, true, true, true, true, true, true, true, true, false, false] rfl ?_
                      (try simp only [Act.put, List.setIfInBounds_toArray, List.set_cons_zero, List.set_cons_succ])
                      refine h_skip 14 (some 137) rfl rfl (by kernel_rfl) (by kernel_rfl) (by kernel_rfl) (fun _ _ _ h => h) (by rfl) hS #[true, true, true, true, true, true, true, true, true, true, true, true, true, true, true, false] rfl ?_
                      (try simp only [Act.put, List.setIfInBounds_toArray, List.set_cons_zero, List.set_cons_succ])
                      refine h_take (v := ?_) 15 (some 138) rfl rfl (by kernel_rfl) (by kernel_rfl) (by kernel_rfl) (fun _ _ _ h => h) (by rfl) hS (fun wS hSw => ?_) #[true, true, true, true, true, true, true, true, true, true, true, true, true, true, true, true] rfl ?_; rotate_left
                      · clear hSw; go_simp; first | done | with_reducible rfl
                      (try simp only [Act.put, List.setIfInBounds_toArray, List.set_cons_zero, List.set_cons_succ])
                      refine wpAnyH_done (by kernel_rfl) ?_ _
                      have st := hS.1
                      have hbq := hbq.stay hS.2
                      have hown1 := hown1.stay hS.2
                      have hown2 := hown2.stay hS.2
                      clear hS
                      go_wp2
                      go_roundg (ws.length - (m + 1))
                      case measure => omega
                      case rel => exact ⟨m + 1, by omega, rfl, by go_num, hown2, hown1, hbq, st⟩
                  · obtain ⟨B, off, hA1, -, hB, h0⟩ := hown1.row.int_at hlt
                    have hix := ix32 hA1 hlt c1
                    clear hA1 hown2
                    have hze : L.getD k 0 = z := hzk.out
                    rw [hze] at h0
                    clear hze
                    go_wp2_with fail
                    have hS : St w wr.drew w.heap.size x F ∧ Below wr.heap.size wr wr.drew := ⟨st.drew, (Below.refl _ _).drew⟩
                    refine h_begin (S := fun w' => St w w' w.heap.size x F ∧ Below wr.heap.size wr w') 8 #[false, false, false, false, false, false, false, false] rfl rfl ?_
                    refine h_take (v := ?_) 0 (some 139) rfl rfl (by kernel_rfl) (by kernel_rfl) (by kernel_rfl) (fun _ _ _ h => h) (by rfl) hS (fun wS hSw => ?_) #[true, false, false, false, false, false, false, false] rfl ?_; rotate_left
                    · clear hSw; go_simp; first | done | with_reducible rfl
                    (try simp only [Act.put, List.setIfInBounds_toArray, List.set_cons_zero, List.set_cons_succ])
                    refine h_take (v := ?_) 1 (some 140) rfl rfl (by kernel_rfl) (by kernel_rfl) (by kernel_rfl) (fun _ _ _ h => h) (by rfl) hS (fun wS hSw => ?_) #[true, true, false, false, false, false, false, false] rfl ?_; rotate_left
                    · have hc := cells_of hSw.2; go_simp; first | done | with_reducible rfl
                    (try simp only [Act.put, List.setIfInBounds_toArray, List.set_cons_zero, List.set_cons_succ])
                    refine h_take (v := ?_) 2 (some 141) rfl rfl (by kernel_rfl) (by kernel_rfl) (by kernel_rfl) (fun _ _ _ h => h) (by rfl) hS (fun wS hSw => ?_) #[true, true, true, false, false, false, false, false] rfl ?_; rotate_left
                    · clear hSw; go_simp; first | done | with_reducible rfl
                    (try simp only [Act.put, List.setIfInBounds_toArray, List.set_cons_zero, List.set_cons_succ])
                    refine h_take (v := ?_) 3 (some 142) rfl rfl (by kernel_rfl) (by kernel_rfl) (by kernel_rfl) (fun _ _ _ h => h) (by rfl) hS (fun wS hSw => ?_) #[true, true, true, true, false, false, false, false] rfl ?_; rotate_left
                    · clear hSw; go_simp; first | done | with_reducible rfl
                    (try simp only [Act.put, List.setIfInBounds_toArray, List.set_cons_zero, List.set_cons_succ])
                    refine h_take (v := ?_) 4 (some 143) rfl rfl (by kernel_rfl) (by kernel_rfl) (by kernel_rfl) (fun _ _ _ h => h) (by rfl) hS (fun wS hSw => ?_) #[true, true, true, true, true, false, false, false] rfl ?_; rotate_left
                    · have hc := cells_of hSw.2; go_simp; first | done | with_reducible rfl
                    (try simp only [Act.put, List.setIfInBounds_toArray, List.set_cons_zero, List.set_cons_succ])
                    refine h_take (v := ?_) 5 (some 144) rfl rfl (by kernel_rfl) (by kernel_rfl) (by kernel_rfl) (fun _ _ _ h => h) (by rfl) hS (fun wS hSw => ?_) #[true, true, true, true, true, true, false, false] rfl ?_; rotate_left
                    · have hc := cells_of hSw.2; go_simp; first | done | with_reducible rfl
                    (try simp only [Act.put, List.setIfInBounds_toArray, List.set_cons_zero, List.set_cons_succ])
                    refine h_call 6 (some 145) (by kernel_rfl) rfl rfl (by rfl) #[true, true, true, true, true, true, true, false] rfl (by go_simp; exact ⟨rfl, rfl⟩) ?_
                    refine (in_any A from_ ac _ _ (St.row hS.1 hA) (by omega)).mono ?_
                    rintro e wn ⟨rfl, hbn⟩
                    refine ⟨_, rfl, ?_, ?_⟩
                    · exact ⟨St.next hS.1 hbn, hS.2.trans (hbn.mono hS.2.size)⟩
                    have hS : _ ∧ _ := ⟨St.next hS.1 hbn, hS.2.trans (hbn.mono hS.2.size)⟩
                    (try simp only [Act.put, List.setIfInBounds_toArray, List.set_cons_zero, List.set_cons_succ])
                    refine h_take (v := ?_) 7 (some 10) rfl rfl (by kernel_rfl) (by kernel_rfl) (by kernel_rfl) (fun _ _ _ h => h) (by rfl) hS (fun wS hSw => ?_) #[true, true, true, true, true, true, true, true] rfl ?_; rotate_left
                    · clear hSw; go_simp; first | done | with_reducible rfl
                    (try simp only [Act.put, List.setIfInBounds_toArray, List.set_cons_zero, List.set_cons_succ])
                    refine wpAnyH_done (by kernel_rfl) ?_ _
                    have st := hS.1
                    have hbq := hbq.stay hS.2
                    have hown1 := hown1.stay hS.2
                    clear hS
                    go_wp2
                    go_loopg [10, 11] L.length (fun g s i wr => ∃ (m : Nat) (b : Bool), m ≤ L.length ∧ g = L.length - m ∧ i = .int .i64 m ∧ s = .bool b ∧ b = come F rs from_ L z m ∧ Own wr 0 A1 c1 L ∧ Bk wr w1.heap.size 34 #[.slice R rs.length rc, .slice A from_.length ac, .int .i64 stop] ∧ St w wr w.heap.size x F)
                    case atStart => exact ⟨0, _, Nat.zero_le _, rfl, rfl, rfl, come_zero.symm, hown1, hbq, st⟩
                    case round =>
                      clear hown1 hbq st ho h14 q0 q1 q2 hql hxl h0 hix hB
                      obtain ⟨m, b, hm, rfl, rfl, rfl, hb, hown1, hbq, st⟩ := hrel
                      have ho := st.old
                      have h14 := st.c14
                      have q0 := (hbq.cell 0).trans rfl; have q1 := (hbq.cell 1).trans rfl; have q2 := (hbq.cell 2).trans rfl; have hql := hbq.lt; 
                      have hxl := st.bx.lt
                      have Hb := Lib.hid hb
                      clear hb
                      by_cases hlt3 : m < L.length
                      · obtain ⟨B, off, hA1, -, hB, h0⟩ := hown1.row.int_at hlt
                        have hix := ix32 hA1 hlt c1
                        obtain ⟨B2, off2, hA2, -, hB2, h02⟩ := hown1.row.int_at hlt3
                        have hix2 := ix32 hA2 hlt3 c1
                        clear hA1 hA2
                        have hze : L.getD k 0 = z := hzk.out
                        rw [hze] at h0
                        clear hze
                        have Hs := Lib.hid (come_succ (F := F) (rs := rs) (from_ := from_) (z := z) hlt3)
                        generalize L.getD m 0 = u at *
                        cases b with
                        | true =>
                          have hb2 := Lib.hid (show true = come F rs from_ L z (m + 1) by rw [Hs.out, ← Hb.out]; rfl)
                          clear Hs
                          go_wp2_with fail
                          have hS : St w wr.drew w.heap.size x F ∧ Below wr.heap.size wr wr.drew := ⟨st.drew, (Below.refl _ _).drew⟩
                          refine h_begin (S := fun w' => St w w' w.heap.size x F ∧ Below wr.heap.size wr w') 17 #[false, false, false, false, false, false, false, false, false, false, false, false, false, false, false, false, false] rfl rfl ?_
                          refine h_take (v := ?_) 0 (some 152) rfl rfl (by kernel_rfl) (by kernel_rfl) (by kernel_rfl) (fun _ _ _ h => h) (by rfl) hS (fun wS hSw => ?_) #[true, false, false, false, false, false, false, false, false, false, false, false, false, false, false, false, false] rfl ?_; rotate_left
                          · clear hSw; go_simp; first | done | with_reducible rfl
                          (try simp only [Act.put, List.setIfInBounds_toArray, List.set_cons_zero, List.set_cons_succ])
                          refine h_take (v := ?_) 1 (some 153) rfl rfl (by kernel_rfl) (by kernel_rfl) (by kernel_rfl) (fun _ _ _ h => h) (by rfl) hS (fun wS hSw => ?_) #[true, true, false, false, false, false, false, false, false, false, false, false, false, false, false, false, false] rfl ?_; rotate_left
                          · clear hSw; go_simp; first | done | with_reducible rfl
                          (try simp only [Act.put, List.setIfInBounds_toArray, List.set_cons_zero, List.set_cons_succ])
                          refine h_skip 2 (some 154) rfl rfl (by kernel_rfl) (by kernel_rfl) (by kernel_rfl) (fun _ _ _ h => h) (by rfl) hS #[true, true, true, false, false, false, false, false, false, false, false, false, false, false, false, false, false] rfl ?_
                          (try simp only [Act.put, List.setIfInBounds_toArray, List.set_cons_zero, List.set_cons_succ])
                          refine h_skip 3 (some 155) rfl rfl (by kernel_rfl) (by kernel_rfl) (by kernel_rfl) (fun _ _ _ h => h) (by rfl) hS #[true, true, true, true, false, false, false, false, false, false, false, false, false, false, false, false, false] rfl ?_
                          (try simp only [Act.put, List.setIfInBounds_toArray, List.set_cons_zero, List.set_cons_succ])
                          refine h_skip 4 (some 156) rfl rfl (by kernel_rfl) (by kernel_rfl) (by kernel_rfl) (fun _ _ _ h => h) (by rfl) hS #[true, true, true, true, true, false, false, false, false, false, false, false, false, false, false, false, false] rfl ?_
                          (try simp only [Act.put, List.setIfInBounds_toArray, List.set_cons_zero, List.set_cons_succ])
                          refine h_skip 5 (some 157) rfl rfl (by kernel_rfl) (by kernel_rfl) (by kernel_rfl) (fun _ _ _ h => h) (by rfl) hS #[true, true, true, true, true, true, false, false, false, false, false, false, false, false, false, false, false] rfl ?_
                          (try simp only [Act.put, List.setIfInBounds_toArray, List.set_cons_zero, List.set_cons_succ])
                          refine h_skip 6 (some 158) rfl rfl (by kernel_rfl) (by kernel_rfl) (by kernel_rfl) (fun _ _ _ h => h) (by rfl) hS #[true, true, true, true, true, true, true, false, false, false, false, false, false, false, false, false, false] rfl ?_
                          (try simp only [Act.put, List.setIfInBounds_toArray, List.set_cons_zero, List.set_cons_succ])
                          refine h_skip 7 (some 159) rfl rfl (by kernel_rfl) (by kernel_rfl) (by kernel_rfl) (fun _ _ _ h => h) (by rfl) hS #[true, true, true, true, true, true, true, true, false, false, false, false, false, false, false, false, false] rfl ?_
                          (try simp only [Act.put, List.setIfInBounds_toArray, List.set_cons_zero, List.set_cons_succ])
                          refine h_skip 8 (some 160) rfl rfl (by kernel_rfl) (by kernel_rfl) (by kernel_rfl) (fun _ _ _ h => h) (by rfl) hS #[true, true, true, true, true, true, true, true, true, false, false, false, false, false, false, false, false] rfl ?_
                          (try simp only [Act.put, List.setIfInBounds_toArray, List.set_cons_zero, List.set_cons_succ])
                          refine h_skip 9 (some 161) rfl rfl (by kernel_rfl) (by kernel_rfl) (by kernel_rfl) (fun _ _ _ h => h) (by rfl) hS #[true, true, true, true, true, true, true, true, true, true, false, false, false, false, false, false, false] rfl ?_
                          (try simp only [Act.put, List.setIfInBounds_toArray, List.set_cons_zero, List.set_cons_succ])
                          refine h_skip 10 (some 162) rfl rfl (by kernel_rfl) (by kernel_rfl) (by kernel_rfl) (fun _ _ _ h => h) (by rfl) hS #[true, true, true, true, true, true, true, true, true, true, true, false, false, false, false, false, false] rfl ?_
                          (try simp only [Act.put, List.setIfInBounds_toArray, List.set_cons_zero, List.set_cons_succ])
                          refine h_skip 11 (some 163) rfl rfl (by kernel_rfl) (by kernel_rfl) (by kernel_rfl) (fun _ _ _ h => h) (by rfl) hS #[true, true, true, true, true, true, true, true, true, true, true, true, false, false, false, false, false] rfl ?_
                          (try simp only [Act.put, List.setIfInBounds_toArray, List.set_cons_zero, List.set_cons_succ])
                          refine h_skip 12 (some 164) rfl rfl (by kernel_rfl) (by kernel_rfl) (by kernel_rfl) (fun _ _ _ h => h) (by rfl) hS #[true, true, true, true, true, true, true, true, true, true, true, true, true, false, false, false, false] rfl ?_
                          (try simp only [Act.put, List.setIfInBounds_toArray, List.set_cons_zero, List.set_cons_succ])
                          refine h_skip 13 (some 165) rfl rfl (by kernel_rfl) (by kernel_rfl) (by kernel_rfl) (fun _ _ _ h => h) (by rfl) hS #[true, true, true, true, true, true, true, true, true, true, true, true, true, true, false, false, false] rfl ?_
                          (try simp only [Act.put, List.setIfInBounds_toArray, List.set_cons_zero, List.set_cons_succ])
                          refine h_skip 14 (some 166) rfl rfl (by kernel_rfl) (by kernel_rfl) (by kernel_rfl) (fun _ _ _ h => h) (by rfl) hS #[true, true, true, true, true, true, true, true, true, true, true, true, true, true, true, false, false] rfl ?_
                          (try simp only [Act.put, List.setIfInBounds_toArray, List.set_cons_zero, List.set_cons_succ])
                          refine h_take (v := ?_) 15 (some 167) rfl rfl (by kernel_rfl) (by kernel_rfl) (by kernel_rfl) (fun _ _ _ h => h) (by rfl) hS (fun wS hSw => ?_) #[true, true, true, true, true, true, true, true, true, true, true, true, true, true, true, true, false] rfl ?_; rotate_left
                          · clear hSw; go_simp; first | done | with_reducible rfl
                          (try simp only [Act.put, List.setIfInBounds_toArray, List.set_cons_zero, List.set_cons_succ])
                          refine h_take (v := ?_) 16 (some 10) rfl rfl (by kernel_rfl) (by kernel_rfl) (by kernel_rfl) (fun _ _ _ h => h) (by rfl) hS (fun wS hSw => ?_) #[true, true, true, true, true, true, true, true, true, true, true, true, true, true, true, true, true] rfl ?_; rotate_left
                          · clear hSw; go_simp; first | done | with_reducible rfl
                          (try simp only [Act.put, List.setIfInBounds_toArray, List.set_cons_zero, List.set_cons_succ])
                          refine wpAnyH_done (by kernel_rfl) ?_ _
                          have st := hS.1
                          have hbq := hbq.stay hS.2
                          have hown1 := hown1.stay hS.2
                          clear hS
                          go_wp2
                          go_roundg (L.length - (m + 1))
                          case measure => omega
                          case rel => exact ⟨m + 1, _, by omega, rfl, by go_num, rfl, hb2.out, hown1, hbq, st⟩
                        | false =>
                          have hb2 := Lib.hid (show decide (z ∈ F.ways rs u) = come F rs from_ L z (m + 1) by rw [Hs.out, ← Hb.out]; rfl)
                          have hws3 := Fn.ways_length F rs u
                          clear Hs
                          go_wp2_with fail
                          have hS : St w wr.drew w.heap.size x F ∧ Below wr.heap.size wr wr.drew := ⟨st.drew, (Below.refl _ _).drew⟩
                          refine h_begin (S := fun w' => St w w' w.heap.size x F ∧ Below wr.heap.size wr w') 17 #[false, false, false, false, false, false, false, false, false, false, false, false, false, false, false, false, false] rfl rfl ?_
                          refine h_take (v := ?_) 0 (some 152) rfl rfl (by kernel_rfl) (by kernel_rfl) (by kernel_rfl) (fun _ _ _ h => h) (by rfl) hS (fun wS hSw => ?_) #[true, false, false, false, false, false, false, false, false, false, false, false, false, false, false, false, false] rfl ?_; rotate_left
                          · clear hSw; go_simp; first | done | with_reducible rfl
                          (try simp only [Act.put, List.setIfInBounds_toArray, List.set_cons_zero, List.set_cons_succ])
                          refine h_take (v := ?_) 1 (some 153) rfl rfl (by kernel_rfl) (by kernel_rfl) (by kernel_rfl) (fun _ _ _ h => h) (by rfl) hS (fun wS hSw => ?_) #[true, true, false, false, false, false, false, false, false, false, false, false, false, false, false, false, false] rfl ?_; rotate_left
                          · clear hSw; go_simp; first | done | with_reducible rfl
                          (try simp only [Act.put, List.setIfInBounds_toArray, List.set_cons_zero, List.set_cons_succ])
                          refine h_take (v := ?_) 2 (some 154) rfl rfl (by kernel_rfl) (by kernel_rfl) (by kernel_rfl) (fun _ _ _ h => h) (by rfl) hS (fun wS hSw => ?_) #[true, true, true, false, false, false, false, false, false, false, false, false, false, false, false, false, false] rfl ?_; rotate_left
                          · refine run_ld30 _ (.tmp 2) ?_ ?_ hSw.1.bx <;> rfl
                          (try simp only [Act.put, List.setIfInBounds_toArray, List.set_cons_zero, List.set_cons_succ])
                          refine h_take (v := ?_) 3 (some 155) rfl rfl (by kernel_rfl) (by kernel_rfl) (by kernel_rfl) (fun _ _ _ h => h) (by rfl) hS (fun wS hSw => ?_) #[true, true, true, true, false, false, false, false, false, false, false, false, false, false, false, false, false] rfl ?_; rotate_left
                          · clear hSw; go_simp; first | done | with_reducible rfl
                          (try simp only [Act.put, List.setIfInBounds_toArray, List.set_cons_zero, List.set_cons_succ])
                          refine h_take (v := ?_) 4 (some 156) rfl rfl (by kernel_rfl) (by kernel_rfl) (by kernel_rfl) (fun _ _ _ h => h) (by rfl) hS (fun wS hSw => ?_) #[true, true, true, true, true, false, false, false, false, false, false, false, false, false, false, false, false] rfl ?_; rotate_left
                          · have hc := cells_of hSw.2; go_simp; first | done | with_reducible rfl
                          (try simp only [Act.put, List.setIfInBounds_toArray, List.set_cons_zero, List.set_cons_succ])
                          refine h_take (v := ?_) 5 (some 157) rfl rfl (by kernel_rfl) (by kernel_rfl) (by kernel_rfl) (fun _ _ _ h => h) (by rfl) hS (fun wS hSw => ?_) #[true, true, true, true, true, true, false, false, false, false, false, false, false, false, false, false, false] rfl ?_; rotate_left
                          · clear hSw; go_simp; first | done | with_reducible rfl
                          (try simp only [Act.put, List.setIfInBounds_toArray, List.set_cons_zero, List.set_cons_succ])
                          refine h_take (v := ?_) 6 (some 158) rfl rfl (by kernel_rfl) (by kernel_rfl) (by kernel_rfl) (fun _ _ _ h => h) (by rfl) hS (fun wS hSw => ?_) #[true, true, true, true, true, true, true, false, false, false, false, false, false, false, false, false, false] rfl ?_; rotate_left
                          · clear hSw; go_simp; first | done | with_reducible rfl
                          (try simp only [Act.put, List.setIfInBounds_toArray, List.set_cons_zero, List.set_cons_succ])
                          refine h_take (v := ?_) 7 (some 159) rfl rfl (by kernel_rfl) (by kernel_rfl) (by kernel_rfl) (fun _ _ _ h => h) (by rfl) hS (fun wS hSw => ?_) #[true, true, true, true, true, true, true, true, false, false, false, false, false, false, false, false, false] rfl ?_; rotate_left
                          · have hc := cells_of hSw.2; go_simp; first | done | with_reducible rfl
                          (try simp only [Act.put, List.setIfInBounds_toArray, List.set_cons_zero, List.set_cons_succ])
                          refine h_take (v := ?_) 8 (some 160) rfl rfl (by kernel_rfl) (by kernel_rfl) (by kernel_rfl) (fun _ _ _ h => h) (by rfl) hS (fun wS hSw => ?_) #[true, true, true, true, true, true, true, true, true, false, false, false, false, false, false, false, false] rfl ?_; rotate_left
                          · have hc := cells_of hSw.2; go_simp; first | done | with_reducible rfl
                          (try simp only [Act.put, List.setIfInBounds_toArray, List.set_cons_zero, List.set_cons_succ])
                          refine h_take (v := ?_) 10 (some 162) rfl rfl (by kernel_rfl) (by kernel_rfl) (by kernel_rfl) (fun _ _ _ h => h) (by rfl) hS (fun wS hSw => ?_) #[true, true, true, true, true, true, true, true, true, false, true, false, false, false, false, false, false] rfl ?_; rotate_left
                          · clear hSw; go_simp; first | done | with_reducible rfl
                          (try simp only [Act.put, List.setIfInBounds_toArray, List.set_cons_zero, List.set_cons_succ])
                          refine h_take (v := ?_) 11 (some 163) rfl rfl (by kernel_rfl) (by kernel_rfl) (by kernel_rfl) (fun _ _ _ h => h) (by rfl) hS (fun wS hSw => ?_) #[true, true, true, true, true, true, true, true, true, false, true, true, false, false, false, false, false] rfl ?_; rotate_left
                          · clear hSw; go_simp; first | done | with_reducible rfl
                          (try simp only [Act.put, List.setIfInBounds_toArray, List.set_cons_zero, List.set_cons_succ])
                          refine h_take (v := ?_) 12 (some 164) rfl rfl (by kernel_rfl) (by kernel_rfl) (by kernel_rfl) (fun _ _ _ h => h) (by rfl) hS (fun wS hSw => ?_) #[true, true, true, true, true, true, true, true, true, false, true, true, true, false, false, false, false] rfl ?_; rotate_left
                          · have hc := cells_of hSw.2; go_simp; first | done | with_reducible rfl
                          (try simp only [Act.put, List.setIfInBounds_toArray, List.set_cons_zero, List.set_cons_succ])
                          refine h_take (v := ?_) 13 (some 165) rfl rfl (by kernel_rfl) (by kernel_rfl) (by kernel_rfl) (fun _ _ _ h => h) (by rfl) hS (fun wS hSw => ?_) #[true, true, true, true, true, true, true, true, true, false, true, true, true, true, false, false, false] rfl ?_; rotate_left
                          · have hc := cells_of hSw.2; go_simp; first | done | with_reducible rfl
                          (try simp only [Act.put, List.setIfInBounds_toArray, List.set_cons_zero, List.set_cons_succ])
                          refine h_call 9 (some 161) (by kernel_rfl) rfl rfl (by rfl) #[true, true, true, true, true, true, true, true, true, true, true, true, true, true, false, false, false] rfl (by go_simp; exact ⟨rfl, rfl⟩) ?_
                          refine (ways_any x F R rs rc u _ (St.fn hS.1 hF) (St.row hS.1 hR) (by omega) (by omega)).mono ?_
                          rintro e wn ⟨A3, c3, rfl, hown3, hbn⟩
                          refine ⟨_, rfl, ?_, ?_⟩
                          · exact ⟨St.next hS.1 hbn, hS.2.trans (hbn.mono hS.2.size)⟩
                          have hS : _ ∧ _ := ⟨St.next hS.1 hbn, hS.2.trans (hbn.mono hS.2.size)⟩
                          (try simp only [Act.put, List.setIfInBounds_toArray, List.set_cons_zero, List.set_cons_succ])
                          refine h_call 14 (some 166) (by kernel_rfl) rfl rfl (by rfl) #[true, true, true, true, true, true, true, true, true, true, true, true, true, true, true, false, false] rfl (by go_simp; exact ⟨rfl, rfl⟩) ?_
                          refine (in_any A3 (F.ways rs u) c3 _ _ (Row.lower (Own.row hown3) (Nat.zero_le _)) (by omega)).mono ?_
                          rintro e wn ⟨rfl, hbn⟩
                          refine ⟨_, rfl, ?_, ?_⟩
                          · exact ⟨St.next hS.1 hbn, hS.2.trans (hbn.mono hS.2.size)⟩
                          have hS : _ ∧ _ := ⟨St.next hS.1 hbn, hS.2.trans (hbn.mono hS.2.size)⟩
                          (try simp only [Act.put, List.setIfInBounds_toArray, List.set_cons_zero, List.set_cons_succ])
                          refine h_take (v := ?_) 15 (some 167) rfl rfl (by kernel_rfl) (by kernel_rfl) (by kernel_rfl) (fun _ _ _ h => h) (by rfl) hS (fun wS hSw => ?_) #[true, true, true, true, true, true, true, true, true, true, true, true, true, true, true, true, false] rfl ?_; rotate_left
                          · clear hSw; go_simp; first | done | with_reducible rfl
                          (try simp only [Act.put, List.setIfInBounds_toArray, List.set_cons_zero, List.set_cons_succ])
                          refine h_take (v := ?_) 16 (some 10) rfl rfl (by kernel_rfl) (by kernel_rfl) (by kernel_rfl) (fun _ _ _ h => h) (by rfl) hS (fun wS hSw => ?_) #[true, true, true, true, true, true, true, true, true, true, true, true, true, true, true, true, true] rfl ?_; rotate_left
                          · clear hSw; go_simp; first | done | with_reducible rfl
                          (try simp only [Act.put, List.setIfInBounds_toArray, List.set_cons_zero, List.set_cons_succ])
                          refine wpAnyH_done (by kernel_rfl) ?_ _
                          have st := hS.1
                          have hbq := hbq.stay hS.2
                          have hown1 := hown1.stay hS.2
                          clear hS
                          go_wp2
                          go_roundg (L.length - (m + 1))
                          case measure => omega
                          case rel => exact ⟨m + 1, _, by omega, rfl, by go_num, rfl, hb2.out, hown1, hbq, st⟩
                      · have e : b = true := by rw [Hb.out, show m = L.length by omega]; exact hLcome.out _ hmem.out
                        subst e
                        go_wp2
                        go_roundg (L.length - (k + 1))
                        case measure => omega
                        case rel => exact ⟨k + 1, by omega, rfl, by go_num, hown1, hbq, st⟩
            · go_wp2
              go_ret
              exact ⟨ret_bool (by simp), st.hb⟩
    · go_enter Try.func4, Try.ntmps4
      go_wp2_with (first | go_skip | ((with_reducible refine at_box 30 rfl ?_); refine bx30 _ rfl x F rfl rfl ?_; intro w1 hbx hb1 hs1; have st := St.new hbx hb1; have ho := st.old; have h14 := st.c14; have h15 := st.c15; clear hbx hb1 hs1) | ((with_reducible refine at_box 34 rfl ?_); refine wp_box 34 _ rfl #[.slice R rs.length rc, .slice A from_.length ac, .int .i64 stop] rfl rfl ?_; intro w2 hbq hb2 hs2; have st := St.next (by assumption) hb2; have ho := st.old; have h14 := st.c14; have h15 := st.c15; clear hb2) | ((with_reducible refine at_load 30 rfl ?_); refine ld30 _ rfl _ rfl x F (St.bx (by assumption)) rfl ?_) | (go_at_call 13; refine (awake15 _).mono ?_; rintro e wa ⟨rfl, hba⟩; have st := St.next (by assumption) hba; have hbq := Bk.stay hbq hba; have q0 := (hbq.cell 0).trans rfl; have q1 := (hbq.cell 1).trans rfl; clear hba) | (go_at_call 14; refine (few15 x F R rs.length rc _ true Hfew.out.symm).mono ?_; rintro e wf ⟨rfl, hbf⟩; have st := St.next (by assumption) hbf; have hbq := Bk.stay hbq hbf; have q0 := (hbq.cell 0).trans rfl; have q1 := (hbq.cell 1).trans rfl; have q2 := (hbq.cell 2).trans rfl; have hql := hbq.lt; clear hbf))
      go_ret
      exact ⟨ret_bool (by simp), st.hb⟩
  · have hfew : (decide (F.code.length ≤ 60) && decide (F.hs.length ≤ 60) && decide (rs.length ≤ 1000)) = false := by simpa using hfew
    have Hfew := Lib.hid hfew
    clear hfew
    go_enter Try.func4, Try.ntmps4
    go_wp2_with (first | go_skip | ((with_reducible refine at_box 30 rfl ?_); refine bx30 _ rfl x F rfl rfl ?_; intro w1 hbx hb1 hs1; have st := St.new hbx hb1; have ho := st.old; have h14 := st.c14; have h15 := st.c15; clear hbx hb1 hs1) | ((with_reducible refine at_box 34 rfl ?_); refine wp_box 34 _ rfl #[.slice R rs.length rc, .slice A from_.length ac, .int .i64 stop] rfl rfl ?_; intro w2 hbq hb2 hs2; have st := St.next (by assumption) hb2; have ho := st.old; have h14 := st.c14; have h15 := st.c15; clear hb2) | ((with_reducible refine at_load 30 rfl ?_); refine ld30 _ rfl _ rfl x F (St.bx (by assumption)) rfl ?_) | (go_at_call 13; refine (awake15 _).mono ?_; rintro e wa ⟨rfl, hba⟩; have st := St.next (by assumption) hba; have hbq := Bk.stay hbq hba; have q0 := (hbq.cell 0).trans rfl; have q1 := (hbq.cell 1).trans rfl; clear hba) | (go_at_call 14; refine (few15 x F R rs.length rc _ false Hfew.out.symm).mono ?_; rintro e wf ⟨rfl, hbf⟩; have st := St.next (by assumption) hbf; have hbq := Bk.stay hbq hbf; have q0 := (hbq.cell 0).trans rfl; have q1 := (hbq.cell 1).trans rfl; have q2 := (hbq.cell 2).trans rfl; have hql := hbq.lt; clear hbf))
    go_ret
    exact ⟨ret_bool (by simp), st.hb⟩
end Go.Proofs.Ytnnhlnefhndpdaa
