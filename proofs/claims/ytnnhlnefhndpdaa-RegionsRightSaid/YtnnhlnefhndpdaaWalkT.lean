/- The walk of the reference's within. -/
import Derived.Test.YtnnhlnefhndpdaaWalkJ
import Derived.Test.YtnnhlnefhndpdaaPlain8
import Derived.Test.YtnnhlnefhndpdaaWalkE
import Derived.Test.YtnnhlnefhndpdaaWalkG
import Derived.Test.YtnnhlnefhndpdaaRegion
import Derived.Deep.DeepCutAuto
namespace Go.Proofs.Ytnnhlnefhndpdaa
open Go.RowKit
set_option linter.unusedSimpArgs false
set_option linter.unusedVariables false

theorem in_is (A : Option Addr) (l : List Int) (c : Nat) (v : Int) (w : World) (b : Bool) (hA : Row w 0 A (intsV l)) (hl : l.length ≤ 100000) (hb : decide (v ∈ l) = b) :
    Calls Try.prog 18 #[.slice A l.length c, .int .i64 v] w fun e w' => e = .returned (.bool b) ∧ Below w.heap.size w w' := by
  subst hb
  exact in_any A l c v w hA hl

set_option maxHeartbeats 4000000 in
set_option maxRecDepth 100000 in
theorem rwithin_any (x : FX) (F : Fn) (R A : Option Addr) (rs : List Bool) (rc : Nat) (a j : Int) (pl : List Int) (ac : Nat) (p : Int) (w : World) (hF : FnAt w x F) (hR : Row w 0 R (boolsV rs)) (hA : Row w 0 A (intsV pl))
    (hm : F.hs.length ≤ 1000) (hn : F.code.length ≤ 1000) (hl : pl.length ≤ 1000) :
    Calls Try.prog 51 #[x.val F, .slice R rs.length rc, .agg #[.int .i64 a, .int .i64 j, .slice A pl.length ac], .int .i64 p] w fun e w' => e = .returned (.bool (withinF F rs j pl p)) ∧ Below w.heap.size w w' := by
  go_enter Try.func51, Try.ntmps51
  go_wp2_with (first | go_skip | ((with_reducible refine at_box 30 rfl ?_); refine bx30 _ rfl x F rfl rfl ?_; intro w1 hbx hb1 hs1; have st := St.new hbx hb1; have ho := st.old; have h14 := st.c14; have h15 := st.c15; clear hbx hb1 hs1) | ((with_reducible refine at_box 44 rfl ?_); refine wp_box 44 _ rfl #[.int .i64 a, .int .i64 j, .slice A pl.length ac] rfl rfl ?_; intro w2 hbq hb2 hs2; have st := St.next (by assumption) hb2; have ho := st.old; have h14 := st.c14; have h15 := st.c15; clear hb2) | ((with_reducible refine at_load 30 rfl ?_); refine ld30 _ rfl _ rfl x F (St.bx (by assumption)) rfl ?_) | (go_at_call 55; refine (rways_any x F R rs rc p _ (St.fn (by assumption) hF) (St.row (by assumption) hR) hm hn).mono ?_; rintro e wn ⟨A2, c2, rfl, hown, hbn⟩; have st := St.next (by assumption) hbn; have hbq := Bk.stay hbq hbn; clear hbn))
  have hown := hown.lower (Nat.zero_le _)
  have hw3 := Fn.ways_length F rs p
  have hwi : withinF F rs j pl p = !((F.ways rs p).any fun w => w != j && !decide (w ∈ pl)) := rfl
  generalize F.ways rs p = ws at *
  have HW := Lib.hid hwi
  clear hwi
  go_loopg [10] ws.length (fun g s wr => ∃ (k : Nat), k ≤ ws.length ∧ g = ws.length - k ∧ s = .int .i64 k ∧ Hid (((ws.take k).any fun w => w != j && !decide (w ∈ pl)) = false) ∧ Own wr 0 A2 c2 ws ∧ Bk wr w1.heap.size 44 #[.int .i64 a, .int .i64 j, .slice A pl.length ac] ∧ St w wr w.heap.size x F)
  case atStart => exact ⟨0, Nat.zero_le _, rfl, rfl, rfl, hown, hbq, st⟩
  case round =>
    clear hown hbq st
    obtain ⟨k, hk, rfl, rfl, HD, hown, hbq, st⟩ := hrel
    have ho := st.old
    have h14 := st.c14
    have q1 := (hbq.cell 1).trans rfl
    have q2 := (hbq.cell 2).trans rfl
    have hql := hbq.lt
    have hxl := st.bx.lt
    by_cases hlt : k < ws.length
    · obtain ⟨B, off, hA', -, hB, h0⟩ := hown.row.int_at hlt
      have hix := ix32 hA' hlt c2
      have hs := any_take_succ 0 (fun w => w != j && !decide (w ∈ pl)) hlt
      have hyes := any_of_at 0 (fun w => w != j && !decide (w ∈ pl)) hlt
      clear hA'
      generalize ws.getD k 0 = z at *
      have Hs := Lib.hid hs
      have Hyes := Lib.hid hyes
      clear hs hyes
      by_cases hz : (z != j) = true
      · by_cases hin : z ∈ pl
        · have hin : decide (z ∈ pl) = true := decide_eq_true hin
          have Ho := Lib.hid (show (z != j && !decide (z ∈ pl)) = false by rw [hz, hin]; rfl)
          go_wp2_with fail
          have hS : St w wr.drew w.heap.size x F ∧ Below wr.heap.size wr wr.drew := ⟨st.drew, (Below.refl _ _).drew⟩
          refine h_begin (S := fun w' => St w w' w.heap.size x F ∧ Below wr.heap.size wr w') 17 #[false, false, false, false, false, false, false, false, false, false, false, false, false, false, false, false, false] rfl rfl ?_
          refine h_take (v := ?_) 0 (some 21) rfl rfl (by kernel_rfl) (by kernel_rfl) (by kernel_rfl) (fun _ _ _ h => h) (by rfl) hS (fun wS hSw => ?_) #[true, false, false, false, false, false, false, false, false, false, false, false, false, false, false, false, false] rfl ?_; rotate_left
          · clear hSw; go_simp; first | done | with_reducible rfl
          (try simp only [Act.put, List.setIfInBounds_toArray, List.set_cons_zero, List.set_cons_succ])
          refine h_take (v := ?_) 1 (some 22) rfl rfl (by kernel_rfl) (by kernel_rfl) (by kernel_rfl) (fun _ _ _ h => h) (by rfl) hS (fun wS hSw => ?_) #[true, true, false, false, false, false, false, false, false, false, false, false, false, false, false, false, false] rfl ?_; rotate_left
          · clear hSw; go_simp; first | done | with_reducible rfl
          (try simp only [Act.put, List.setIfInBounds_toArray, List.set_cons_zero, List.set_cons_succ])
          refine h_take (v := ?_) 2 (some 23) rfl rfl (by kernel_rfl) (by kernel_rfl) (by kernel_rfl) (fun _ _ _ h => h) (by rfl) hS (fun wS hSw => ?_) #[true, true, true, false, false, false, false, false, false, false, false, false, false, false, false, false, false] rfl ?_; rotate_left
          · have hc := cells_of hSw.2; go_simp; first | done | with_reducible rfl
          (try simp only [Act.put, List.setIfInBounds_toArray, List.set_cons_zero, List.set_cons_succ])
          refine h_take (v := ?_) 3 (some 24) rfl rfl (by kernel_rfl) (by kernel_rfl) (by kernel_rfl) (fun _ _ _ h => h) (by rfl) hS (fun wS hSw => ?_) #[true, true, true, true, false, false, false, false, false, false, false, false, false, false, false, false, false] rfl ?_; rotate_left
          · have hc := cells_of hSw.2; go_simp; first | done | with_reducible rfl
          (try simp only [Act.put, List.setIfInBounds_toArray, List.set_cons_zero, List.set_cons_succ])
          refine h_take (v := ?_) 4 (some 25) rfl rfl (by kernel_rfl) (by kernel_rfl) (by kernel_rfl) (fun _ _ _ h => h) (by rfl) hS (fun wS hSw => ?_) #[true, true, true, true, true, false, false, false, false, false, false, false, false, false, false, false, false] rfl ?_; rotate_left
          · clear hSw; go_simp; first | done | with_reducible rfl
          (try simp only [Act.put, List.setIfInBounds_toArray, List.set_cons_zero, List.set_cons_succ])
          refine h_take (v := ?_) 5 (some 26) rfl rfl (by kernel_rfl) (by kernel_rfl) (by kernel_rfl) (fun _ _ _ h => h) (by rfl) hS (fun wS hSw => ?_) #[true, true, true, true, true, true, false, false, false, false, false, false, false, false, false, false, false] rfl ?_; rotate_left
          · have hc := cells_of hSw.2; go_simp; first | done | with_reducible rfl
          (try simp only [Act.put, List.setIfInBounds_toArray, List.set_cons_zero, List.set_cons_succ])
          refine h_take (v := ?_) 6 (some 27) rfl rfl (by kernel_rfl) (by kernel_rfl) (by kernel_rfl) (fun _ _ _ h => h) (by rfl) hS (fun wS hSw => ?_) #[true, true, true, true, true, true, true, false, false, false, false, false, false, false, false, false, false] rfl ?_; rotate_left
          · clear hSw; go_simp; first | done | with_reducible rfl
          (try simp only [Act.put, List.setIfInBounds_toArray, List.set_cons_zero, List.set_cons_succ])
          refine h_take (v := ?_) 7 (some 28) rfl rfl (by kernel_rfl) (by kernel_rfl) (by kernel_rfl) (fun _ _ _ h => h) (by rfl) hS (fun wS hSw => ?_) #[true, true, true, true, true, true, true, true, false, false, false, false, false, false, false, false, false] rfl ?_; rotate_left
          · clear hSw; go_simp; first | done | with_reducible rfl
          (try simp only [Act.put, List.setIfInBounds_toArray, List.set_cons_zero, List.set_cons_succ])
          refine h_take (v := ?_) 8 (some 29) rfl rfl (by kernel_rfl) (by kernel_rfl) (by kernel_rfl) (fun _ _ _ h => h) (by rfl) hS (fun wS hSw => ?_) #[true, true, true, true, true, true, true, true, true, false, false, false, false, false, false, false, false] rfl ?_; rotate_left
          · clear hSw; go_simp; first | done | with_reducible rfl
          (try simp only [Act.put, List.setIfInBounds_toArray, List.set_cons_zero, List.set_cons_succ])
          refine h_take (v := ?_) 9 (some 30) rfl rfl (by kernel_rfl) (by kernel_rfl) (by kernel_rfl) (fun _ _ _ h => h) (by rfl) hS (fun wS hSw => ?_) #[true, true, true, true, true, true, true, true, true, true, false, false, false, false, false, false, false] rfl ?_; rotate_left
          · have hc := cells_of hSw.2; go_simp; first | done | with_reducible rfl
          (try simp only [Act.put, List.setIfInBounds_toArray, List.set_cons_zero, List.set_cons_succ])
          refine h_take (v := ?_) 10 (some 31) rfl rfl (by kernel_rfl) (by kernel_rfl) (by kernel_rfl) (fun _ _ _ h => h) (by rfl) hS (fun wS hSw => ?_) #[true, true, true, true, true, true, true, true, true, true, true, false, false, false, false, false, false] rfl ?_; rotate_left
          · clear hSw; go_simp; first | done | with_reducible rfl
          (try simp only [Act.put, List.setIfInBounds_toArray, List.set_cons_zero, List.set_cons_succ])
          refine h_take (v := ?_) 11 (some 32) rfl rfl (by kernel_rfl) (by kernel_rfl) (by kernel_rfl) (fun _ _ _ h => h) (by rfl) hS (fun wS hSw => ?_) #[true, true, true, true, true, true, true, true, true, true, true, true, false, false, false, false, false] rfl ?_; rotate_left
          · clear hSw; go_simp; first | done | with_reducible rfl
          (try simp only [Act.put, List.setIfInBounds_toArray, List.set_cons_zero, List.set_cons_succ])
          refine h_take (v := ?_) 12 (some 33) rfl rfl (by kernel_rfl) (by kernel_rfl) (by kernel_rfl) (fun _ _ _ h => h) (by rfl) hS (fun wS hSw => ?_) #[true, true, true, true, true, true, true, true, true, true, true, true, true, false, false, false, false] rfl ?_; rotate_left
          · have hc := cells_of hSw.2; go_simp; first | done | with_reducible rfl
          (try simp only [Act.put, List.setIfInBounds_toArray, List.set_cons_zero, List.set_cons_succ])
          refine h_take (v := ?_) 13 (some 34) rfl rfl (by kernel_rfl) (by kernel_rfl) (by kernel_rfl) (fun _ _ _ h => h) (by rfl) hS (fun wS hSw => ?_) #[true, true, true, true, true, true, true, true, true, true, true, true, true, true, false, false, false] rfl ?_; rotate_left
          · have hc := cells_of hSw.2; go_simp; first | done | with_reducible rfl
          (try simp only [Act.put, List.setIfInBounds_toArray, List.set_cons_zero, List.set_cons_succ])
          refine h_call 14 (some 35) (by kernel_rfl) rfl rfl (by rfl) #[true, true, true, true, true, true, true, true, true, true, true, true, true, true, true, false, false] rfl (by go_simp; exact ⟨rfl, rfl⟩) ?_
          refine (in_is A pl ac z _ _ (St.row hS.1 hA) (by omega) hin).mono ?_
          rintro e wn ⟨rfl, hbn⟩
          refine ⟨_, rfl, ?_, ?_⟩
          · exact ⟨St.next hS.1 hbn, hS.2.trans (hbn.mono hS.2.size)⟩
          have hS : _ ∧ _ := ⟨St.next hS.1 hbn, hS.2.trans (hbn.mono hS.2.size)⟩
          (try simp only [Act.put, List.setIfInBounds_toArray, List.set_cons_zero, List.set_cons_succ])
          refine h_take (v := ?_) 15 (some 36) rfl rfl (by kernel_rfl) (by kernel_rfl) (by kernel_rfl) (fun _ _ _ h => h) (by rfl) hS (fun wS hSw => ?_) #[true, true, true, true, true, true, true, true, true, true, true, true, true, true, true, true, false] rfl ?_; rotate_left
          · clear hSw; go_simp; first | done | with_reducible rfl
          (try simp only [Act.put, List.setIfInBounds_toArray, List.set_cons_zero, List.set_cons_succ])
          refine h_take (v := ?_) 16 (some 37) rfl rfl (by kernel_rfl) (by kernel_rfl) (by kernel_rfl) (fun _ _ _ h => h) (by rfl) hS (fun wS hSw => ?_) #[true, true, true, true, true, true, true, true, true, true, true, true, true, true, true, true, true] rfl ?_; rotate_left
          · clear hSw; go_simp; first | done | with_reducible rfl
          (try simp only [Act.put, List.setIfInBounds_toArray, List.set_cons_zero, List.set_cons_succ])
          refine wpAnyH_done (by kernel_rfl) ?_ _
          have st := hS.1
          have hbq := hbq.stay hS.2
          have hown := hown.stay hS.2
          clear hS
          go_wp2
          go_roundg (ws.length - (k + 1))
          case measure => omega
          case rel => exact ⟨k + 1, by omega, rfl, by go_num, Lib.hid (by rw [Hs.out, HD.out, Ho.out]; rfl), hown, hbq, st⟩
        · have hin : decide (z ∈ pl) = false := decide_eq_false hin
          have Ho := Lib.hid (show (z != j && !decide (z ∈ pl)) = true by rw [hz, hin]; rfl)
          go_wp2_with fail
          have hS : St w wr.drew w.heap.size x F ∧ Below wr.heap.size wr wr.drew := ⟨st.drew, (Below.refl _ _).drew⟩
          refine h_begin (S := fun w' => St w w' w.heap.size x F ∧ Below wr.heap.size wr w') 17 #[false, false, false, false, false, false, false, false, false, false, false, false, false, false, false, false, false] rfl rfl ?_
          refine h_take (v := ?_) 0 (some 21) rfl rfl (by kernel_rfl) (by kernel_rfl) (by kernel_rfl) (fun _ _ _ h => h) (by rfl) hS (fun wS hSw => ?_) #[true, false, false, false, false, false, false, false, false, false, false, false, false, false, false, false, false] rfl ?_; rotate_left
          · clear hSw; go_simp; first | done | with_reducible rfl
          (try simp only [Act.put, List.setIfInBounds_toArray, List.set_cons_zero, List.set_cons_succ])
          refine h_take (v := ?_) 1 (some 22) rfl rfl (by kernel_rfl) (by kernel_rfl) (by kernel_rfl) (fun _ _ _ h => h) (by rfl) hS (fun wS hSw => ?_) #[true, true, false, false, false, false, false, false, false, false, false, false, false, false, false, false, false] rfl ?_; rotate_left
          · clear hSw; go_simp; first | done | with_reducible rfl
          (try simp only [Act.put, List.setIfInBounds_toArray, List.set_cons_zero, List.set_cons_succ])
          refine h_take (v := ?_) 2 (some 23) rfl rfl (by kernel_rfl) (by kernel_rfl) (by kernel_rfl) (fun _ _ _ h => h) (by rfl) hS (fun wS hSw => ?_) #[true, true, true, false, false, false, false, false, false, false, false, false, false, false, false, false, false] rfl ?_; rotate_left
          · have hc := cells_of hSw.2; go_simp; first | done | with_reducible rfl
          (try simp only [Act.put, List.setIfInBounds_toArray, List.set_cons_zero, List.set_cons_succ])
          refine h_take (v := ?_) 3 (some 24) rfl rfl (by kernel_rfl) (by kernel_rfl) (by kernel_rfl) (fun _ _ _ h => h) (by rfl) hS (fun wS hSw => ?_) #[true, true, true, true, false, false, false, false, false, false, false, false, false, false, false, false, false] rfl ?_; rotate_left
          · have hc := cells_of hSw.2; go_simp; first | done | with_reducible rfl
          (try simp only [Act.put, List.setIfInBounds_toArray, List.set_cons_zero, List.set_cons_succ])
          refine h_take (v := ?_) 4 (some 25) rfl rfl (by kernel_rfl) (by kernel_rfl) (by kernel_rfl) (fun _ _ _ h => h) (by rfl) hS (fun wS hSw => ?_) #[true, true, true, true, true, false, false, false, false, false, false, false, false, false, false, false, false] rfl ?_; rotate_left
          · clear hSw; go_simp; first | done | with_reducible rfl
          (try simp only [Act.put, List.setIfInBounds_toArray, List.set_cons_zero, List.set_cons_succ])
          refine h_take (v := ?_) 5 (some 26) rfl rfl (by kernel_rfl) (by kernel_rfl) (by kernel_rfl) (fun _ _ _ h => h) (by rfl) hS (fun wS hSw => ?_) #[true, true, true, true, true, true, false, false, false, false, false, false, false, false, false, false, false] rfl ?_; rotate_left
          · have hc := cells_of hSw.2; go_simp; first | done | with_reducible rfl
          (try simp only [Act.put, List.setIfInBounds_toArray, List.set_cons_zero, List.set_cons_succ])
          refine h_take (v := ?_) 6 (some 27) rfl rfl (by kernel_rfl) (by kernel_rfl) (by kernel_rfl) (fun _ _ _ h => h) (by rfl) hS (fun wS hSw => ?_) #[true, true, true, true, true, true, true, false, false, false, false, false, false, false, false, false, false] rfl ?_; rotate_left
          · clear hSw; go_simp; first | done | with_reducible rfl
          (try simp only [Act.put, List.setIfInBounds_toArray, List.set_cons_zero, List.set_cons_succ])
          refine h_take (v := ?_) 7 (some 28) rfl rfl (by kernel_rfl) (by kernel_rfl) (by kernel_rfl) (fun _ _ _ h => h) (by rfl) hS (fun wS hSw => ?_) #[true, true, true, true, true, true, true, true, false, false, false, false, false, false, false, false, false] rfl ?_; rotate_left
          · clear hSw; go_simp; first | done | with_reducible rfl
          (try simp only [Act.put, List.setIfInBounds_toArray, List.set_cons_zero, List.set_cons_succ])
          refine h_take (v := ?_) 8 (some 29) rfl rfl (by kernel_rfl) (by kernel_rfl) (by kernel_rfl) (fun _ _ _ h => h) (by rfl) hS (fun wS hSw => ?_) #[true, true, true, true, true, true, true, true, true, false, false, false, false, false, false, false, false] rfl ?_; rotate_left
          · clear hSw; go_simp; first | done | with_reducible rfl
          (try simp only [Act.put, List.setIfInBounds_toArray, List.set_cons_zero, List.set_cons_succ])
          refine h_take (v := ?_) 9 (some 30) rfl rfl (by kernel_rfl) (by kernel_rfl) (by kernel_rfl) (fun _ _ _ h => h) (by rfl) hS (fun wS hSw => ?_) #[true, true, true, true, true, true, true, true, true, true, false, false, false, false, false, false, false] rfl ?_; rotate_left
          · have hc := cells_of hSw.2; go_simp; first | done | with_reducible rfl
          (try simp only [Act.put, List.setIfInBounds_toArray, List.set_cons_zero, List.set_cons_succ])
          refine h_take (v := ?_) 10 (some 31) rfl rfl (by kernel_rfl) (by kernel_rfl) (by kernel_rfl) (fun _ _ _ h => h) (by rfl) hS (fun wS hSw => ?_) #[true, true, true, true, true, true, true, true, true, true, true, false, false, false, false, false, false] rfl ?_; rotate_left
          · clear hSw; go_simp; first | done | with_reducible rfl
          (try simp only [Act.put, List.setIfInBounds_toArray, List.set_cons_zero, List.set_cons_succ])
          refine h_take (v := ?_) 11 (some 32) rfl rfl (by kernel_rfl) (by kernel_rfl) (by kernel_rfl) (fun _ _ _ h => h) (by rfl) hS (fun wS hSw => ?_) #[true, true, true, true, true, true, true, true, true, true, true, true, false, false, false, false, false] rfl ?_; rotate_left
          · clear hSw; go_simp; first | done | with_reducible rfl
          (try simp only [Act.put, List.setIfInBounds_toArray, List.set_cons_zero, List.set_cons_succ])
          refine h_take (v := ?_) 12 (some 33) rfl rfl (by kernel_rfl) (by kernel_rfl) (by kernel_rfl) (fun _ _ _ h => h) (by rfl) hS (fun wS hSw => ?_) #[true, true, true, true, true, true, true, true, true, true, true, true, true, false, false, false, false] rfl ?_; rotate_left
          · have hc := cells_of hSw.2; go_simp; first | done | with_reducible rfl
          (try simp only [Act.put, List.setIfInBounds_toArray, List.set_cons_zero, List.set_cons_succ])
          refine h_take (v := ?_) 13 (some 34) rfl rfl (by kernel_rfl) (by kernel_rfl) (by kernel_rfl) (fun _ _ _ h => h) (by rfl) hS (fun wS hSw => ?_) #[true, true, true, true, true, true, true, true, true, true, true, true, true, true, false, false, false] rfl ?_; rotate_left
          · have hc := cells_of hSw.2; go_simp; first | done | with_reducible rfl
          (try simp only [Act.put, List.setIfInBounds_toArray, List.set_cons_zero, List.set_cons_succ])
          refine h_call 14 (some 35) (by kernel_rfl) rfl rfl (by rfl) #[true, true, true, true, true, true, true, true, true, true, true, true, true, true, true, false, false] rfl (by go_simp; exact ⟨rfl, rfl⟩) ?_
          refine (in_is A pl ac z _ _ (St.row hS.1 hA) (by omega) hin).mono ?_
          rintro e wn ⟨rfl, hbn⟩
          refine ⟨_, rfl, ?_, ?_⟩
          · exact ⟨St.next hS.1 hbn, hS.2.trans (hbn.mono hS.2.size)⟩
          have hS : _ ∧ _ := ⟨St.next hS.1 hbn, hS.2.trans (hbn.mono hS.2.size)⟩
          (try simp only [Act.put, List.setIfInBounds_toArray, List.set_cons_zero, List.set_cons_succ])
          refine h_take (v := ?_) 15 (some 36) rfl rfl (by kernel_rfl) (by kernel_rfl) (by kernel_rfl) (fun _ _ _ h => h) (by rfl) hS (fun wS hSw => ?_) #[true, true, true, true, true, true, true, true, true, true, true, true, true, true, true, true, false] rfl ?_; rotate_left
          · clear hSw; go_simp; first | done | with_reducible rfl
          (try simp only [Act.put, List.setIfInBounds_toArray, List.set_cons_zero, List.set_cons_succ])
          refine h_take (v := ?_) 16 (some 37) rfl rfl (by kernel_rfl) (by kernel_rfl) (by kernel_rfl) (fun _ _ _ h => h) (by rfl) hS (fun wS hSw => ?_) #[true, true, true, true, true, true, true, true, true, true, true, true, true, true, true, true, true] rfl ?_; rotate_left
          · clear hSw; go_simp; first | done | with_reducible rfl
          (try simp only [Act.put, List.setIfInBounds_toArray, List.set_cons_zero, List.set_cons_succ])
          refine wpAnyH_done (by kernel_rfl) ?_ _
          have st := hS.1
          have hbq := hbq.stay hS.2
          have hown := hown.stay hS.2
          clear hS
          go_wp2
          go_ret
          exact ⟨ret_bool (by rw [HW.out, Hyes.out Ho.out]; rfl), st.hb⟩
      · have hz : (z != j) = false := by simpa using hz
        have Ho := Lib.hid (show (z != j && !decide (z ∈ pl)) = false by rw [hz]; rfl)
        go_wp2_with fail
        have hS : St w wr.drew w.heap.size x F ∧ Below wr.heap.size wr wr.drew := ⟨st.drew, (Below.refl _ _).drew⟩
        refine h_begin (S := fun w' => St w w' w.heap.size x F ∧ Below wr.heap.size wr w') 17 #[false, false, false, false, false, false, false, false, false, false, false, false, false, false, false, false, false] rfl rfl ?_
        refine h_take (v := ?_) 0 (some 21) rfl rfl (by kernel_rfl) (by kernel_rfl) (by kernel_rfl) (fun _ _ _ h => h) (by rfl) hS (fun wS hSw => ?_) #[true, false, false, false, false, false, false, false, false, false, false, false, false, false, false, false, false] rfl ?_; rotate_left
        · clear hSw; go_simp; first | done | with_reducible rfl
        (try simp only [Act.put, List.setIfInBounds_toArray, List.set_cons_zero, List.set_cons_succ])
        refine h_take (v := ?_) 1 (some 22) rfl rfl (by kernel_rfl) (by kernel_rfl) (by kernel_rfl) (fun _ _ _ h => h) (by rfl) hS (fun wS hSw => ?_) #[true, true, false, false, false, false, false, false, false, false, false, false, false, false, false, false, false] rfl ?_; rotate_left
        · clear hSw; go_simp; first | done | with_reducible rfl
        (try simp only [Act.put, List.setIfInBounds_toArray, List.set_cons_zero, List.set_cons_succ])
        refine h_take (v := ?_) 2 (some 23) rfl rfl (by kernel_rfl) (by kernel_rfl) (by kernel_rfl) (fun _ _ _ h => h) (by rfl) hS (fun wS hSw => ?_) #[true, true, true, false, false, false, false, false, false, false, false, false, false, false, false, false, false] rfl ?_; rotate_left
        · have hc := cells_of hSw.2; go_simp; first | done | with_reducible rfl
        (try simp only [Act.put, List.setIfInBounds_toArray, List.set_cons_zero, List.set_cons_succ])
        refine h_take (v := ?_) 3 (some 24) rfl rfl (by kernel_rfl) (by kernel_rfl) (by kernel_rfl) (fun _ _ _ h => h) (by rfl) hS (fun wS hSw => ?_) #[true, true, true, true, false, false, false, false, false, false, false, false, false, false, false, false, false] rfl ?_; rotate_left
        · have hc := cells_of hSw.2; go_simp; first | done | with_reducible rfl
        (try simp only [Act.put, List.setIfInBounds_toArray, List.set_cons_zero, List.set_cons_succ])
        refine h_take (v := ?_) 4 (some 25) rfl rfl (by kernel_rfl) (by kernel_rfl) (by kernel_rfl) (fun _ _ _ h => h) (by rfl) hS (fun wS hSw => ?_) #[true, true, true, true, true, false, false, false, false, false, false, false, false, false, false, false, false] rfl ?_; rotate_left
        · clear hSw; go_simp; first | done | with_reducible rfl
        (try simp only [Act.put, List.setIfInBounds_toArray, List.set_cons_zero, List.set_cons_succ])
        refine h_take (v := ?_) 5 (some 26) rfl rfl (by kernel_rfl) (by kernel_rfl) (by kernel_rfl) (fun _ _ _ h => h) (by rfl) hS (fun wS hSw => ?_) #[true, true, true, true, true, true, false, false, false, false, false, false, false, false, false, false, false] rfl ?_; rotate_left
        · have hc := cells_of hSw.2; go_simp; first | done | with_reducible rfl
        (try simp only [Act.put, List.setIfInBounds_toArray, List.set_cons_zero, List.set_cons_succ])
        refine h_take (v := ?_) 6 (some 27) rfl rfl (by kernel_rfl) (by kernel_rfl) (by kernel_rfl) (fun _ _ _ h => h) (by rfl) hS (fun wS hSw => ?_) #[true, true, true, true, true, true, true, false, false, false, false, false, false, false, false, false, false] rfl ?_; rotate_left
        · clear hSw; go_simp; first | done | with_reducible rfl
        (try simp only [Act.put, List.setIfInBounds_toArray, List.set_cons_zero, List.set_cons_succ])
        refine h_take (v := ?_) 7 (some 28) rfl rfl (by kernel_rfl) (by kernel_rfl) (by kernel_rfl) (fun _ _ _ h => h) (by rfl) hS (fun wS hSw => ?_) #[true, true, true, true, true, true, true, true, false, false, false, false, false, false, false, false, false] rfl ?_; rotate_left
        · clear hSw; go_simp; first | done | with_reducible rfl
        (try simp only [Act.put, List.setIfInBounds_toArray, List.set_cons_zero, List.set_cons_succ])
        refine h_skip 8 (some 29) rfl rfl (by kernel_rfl) (by kernel_rfl) (by kernel_rfl) (fun _ _ _ h => h) (by rfl) hS #[true, true, true, true, true, true, true, true, true, false, false, false, false, false, false, false, false] rfl ?_
        (try simp only [Act.put, List.setIfInBounds_toArray, List.set_cons_zero, List.set_cons_succ])
        refine h_skip 9 (some 30) rfl rfl (by kernel_rfl) (by kernel_rfl) (by kernel_rfl) (fun _ _ _ h => h) (by rfl) hS #[true, true, true, true, true, true, true, true, true, true, false, false, false, false, false, false, false] rfl ?_
        (try simp only [Act.put, List.setIfInBounds_toArray, List.set_cons_zero, List.set_cons_succ])
        refine h_skip 10 (some 31) rfl rfl (by kernel_rfl) (by kernel_rfl) (by kernel_rfl) (fun _ _ _ h => h) (by rfl) hS #[true, true, true, true, true, true, true, true, true, true, true, false, false, false, false, false, false] rfl ?_
        (try simp only [Act.put, List.setIfInBounds_toArray, List.set_cons_zero, List.set_cons_succ])
        refine h_skip 11 (some 32) rfl rfl (by kernel_rfl) (by kernel_rfl) (by kernel_rfl) (fun _ _ _ h => h) (by rfl) hS #[true, true, true, true, true, true, true, true, true, true, true, true, false, false, false, false, false] rfl ?_
        (try simp only [Act.put, List.setIfInBounds_toArray, List.set_cons_zero, List.set_cons_succ])
        refine h_skip 12 (some 33) rfl rfl (by kernel_rfl) (by kernel_rfl) (by kernel_rfl) (fun _ _ _ h => h) (by rfl) hS #[true, true, true, true, true, true, true, true, true, true, true, true, true, false, false, false, false] rfl ?_
        (try simp only [Act.put, List.setIfInBounds_toArray, List.set_cons_zero, List.set_cons_succ])
        refine h_skip 13 (some 34) rfl rfl (by kernel_rfl) (by kernel_rfl) (by kernel_rfl) (fun _ _ _ h => h) (by rfl) hS #[true, true, true, true, true, true, true, true, true, true, true, true, true, true, false, false, false] rfl ?_
        (try simp only [Act.put, List.setIfInBounds_toArray, List.set_cons_zero, List.set_cons_succ])
        refine h_skip 14 (some 35) rfl rfl (by kernel_rfl) (by kernel_rfl) (by kernel_rfl) (fun _ _ _ h => h) (by rfl) hS #[true, true, true, true, true, true, true, true, true, true, true, true, true, true, true, false, false] rfl ?_
        (try simp only [Act.put, List.setIfInBounds_toArray, List.set_cons_zero, List.set_cons_succ])
        refine h_skip 15 (some 36) rfl rfl (by kernel_rfl) (by kernel_rfl) (by kernel_rfl) (fun _ _ _ h => h) (by rfl) hS #[true, true, true, true, true, true, true, true, true, true, true, true, true, true, true, true, false] rfl ?_
        (try simp only [Act.put, List.setIfInBounds_toArray, List.set_cons_zero, List.set_cons_succ])
        refine h_take (v := ?_) 16 (some 37) rfl rfl (by kernel_rfl) (by kernel_rfl) (by kernel_rfl) (fun _ _ _ h => h) (by rfl) hS (fun wS hSw => ?_) #[true, true, true, true, true, true, true, true, true, true, true, true, true, true, true, true, true] rfl ?_; rotate_left
        · clear hSw; go_simp; first | done | with_reducible rfl
        (try simp only [Act.put, List.setIfInBounds_toArray, List.set_cons_zero, List.set_cons_succ])
        refine wpAnyH_done (by kernel_rfl) ?_ _
        have st := hS.1
        have hbq := hbq.stay hS.2
        have hown := hown.stay hS.2
        clear hS
        go_wp2
        go_roundg (ws.length - (k + 1))
        case measure => omega
        case rel => exact ⟨k + 1, by omega, rfl, by go_num, Lib.hid (by rw [Hs.out, HD.out, Ho.out]; rfl), hown, hbq, st⟩
    · have hm2 : (ws.any fun w => w != j && !decide (w ∈ pl)) = false := by
        have := HD.out
        rwa [List.take_of_length_le (by omega)] at this
      have HM := Lib.hid hm2
      clear hm2
      go_wp2
      go_ret
      exact ⟨ret_bool (by rw [HW.out, HM.out]; rfl), st.hb⟩
end Go.Proofs.Ytnnhlnefhndpdaa
