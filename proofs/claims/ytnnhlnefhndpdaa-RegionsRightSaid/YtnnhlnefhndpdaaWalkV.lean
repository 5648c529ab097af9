/- The walks of the law's same, where both are the same, and of the reference's joins. -/
import Derived.Test.YtnnhlnefhndpdaaPlain9
import Derived.Test.YtnnhlnefhndpdaaWalkE
import Derived.Test.YtnnhlnefhndpdaaWalkI
import Derived.Test.YtnnhlnefhndpdaaWalkJ
import Derived.Test.YtnnhlnefhndpdaaWalkD
import Derived.Deep.DeepCutAuto
namespace Go.Proofs.Ytnnhlnefhndpdaa
open Go.RowKit
set_option linter.unusedSimpArgs false
set_option linter.unusedVariables false

set_option maxHeartbeats 2000000 in
theorem same44_eq (r : Rg) (A A' : Option Addr) (c c' : Nat) (w : World) (hA : Row w 0 A (intsV r.pl)) (hA' : Row w 0 A' (intsV r.pl)) (hl : r.pl.length ≤ 100000) :
    Calls Try.prog 29 #[.agg #[.int .i64 r.at_, .int .i64 r.join, .slice A r.pl.length c], .agg #[.int .i64 r.at_, .int .i64 r.join, .slice A' r.pl.length c']] w fun e w' => e = .returned (.bool true) ∧ Below w.heap.size w w' := by
  obtain ⟨p, q, l⟩ := r
  replace hA : Row w 0 A (intsV l) := hA
  replace hA' : Row w 0 A' (intsV l) := hA'
  replace hl : l.length ≤ 100000 := hl
  show Calls Try.prog 29 #[.agg #[.int .i64 p, .int .i64 q, .slice A l.length c], .agg #[.int .i64 p, .int .i64 q, .slice A' l.length c']] w _
  have hpp : (p == p) = true := by simp
  have hqq : (q == q) = true := by simp
  go_enter Try.func29, Try.ntmps29
  go_upto_region 1 with (first | go_skip | ((with_reducible refine at_box 44 rfl ?_); refine wp_box 44 _ rfl #[.int .i64 p, .int .i64 q, .slice A l.length c] rfl rfl ?_; intro w1 hb1 hl1 hs1; refine at_box 44 rfl ?_; refine wp_box 44 _ rfl #[.int .i64 p, .int .i64 q, .slice A' l.length c'] rfl rfl ?_; intro w2 hb2 hl2 hs2))
  have hb1 := hb1.stay hl2
  have p0 := (hb1.cell 0).trans rfl
  have p1 := (hb1.cell 1).trans rfl
  have p2 := (hb1.cell 2).trans rfl
  have q0 := (hb2.cell 0).trans rfl
  have q1 := (hb2.cell 1).trans rfl
  have q2 := (hb2.cell 2).trans rfl
  have hb := hl1.trans (hl2.mono hl1.size)
  have hA := hA.stay hb
  have hA' := hA'.stay hb
  clear hb1 hb2 hl1 hl2
  go_wp2_with (go_at_call 15; refine (same_any A A' l l c c' _ hA hA' hl).mono ?_; rw [decide_eq_true rfl]; rintro e wn ⟨rfl, hbn⟩)
  go_ret
  exact ⟨rfl, hb.trans (hbn.mono hb.size)⟩

/-- Does it leave, or end here? -/
def endB (F : Fn) (rs : List Bool) (y : Int) : Bool := F.leaves rs y || ((F.ways rs y).length : Int) == 0
/-- What the reference's joins gives. -/
noncomputable def joinsD (F : Fn) (rs : List Bool) (x j : Int) : Bool :=
  !F.leaves rs x && !((reachL F rs (F.ways rs x) j).any (endB F rs)) && decide (0 < (F.ways rs x).length)
theorem joinsD_iff {F : Fn} {rs : List Bool} {x j : Int} (ha : F.ahead = true) : joinsD F rs x j = true ↔ Strict F rs j x := by
  rw [← joinsB_iff ha]
  unfold joinsD joinsB
  simp only [endB, Bool.and_eq_true, Bool.not_eq_true', List.any_eq_false, Bool.or_eq_true, beq_iff_eq, decide_eq_true_eq, not_or, Bool.not_eq_true]
  constructor
  · rintro ⟨⟨h1, h2⟩, h3⟩
    exact ⟨h1, fun y hy => ⟨(h2 y hy).1, fun h => (h2 y hy).2 (by rw [h]; rfl)⟩, fun h => by rw [h] at h3; simp at h3⟩
  · rintro ⟨h1, h2, h3⟩
    exact ⟨⟨h1, fun y hy => ⟨(h2 y hy).1, fun h => (h2 y hy).2 (List.eq_nil_of_length_eq_zero (by omega))⟩⟩, List.length_pos_iff.2 h3⟩

set_option maxHeartbeats 4000000 in
set_option maxRecDepth 100000 in
theorem rjoins_any (x : FX) (F : Fn) (R : Option Addr) (rs : List Bool) (rc : Nat) (a j : Int) (w : World) (hF : FnAt w x F) (hR : Row w 0 R (boolsV rs)) (hm : F.hs.length ≤ 1000) (hn : F.code.length ≤ 1000) :
    Calls Try.prog 54 #[x.val F, .slice R rs.length rc, .int .i64 a, .int .i64 j] w fun e w' => e = .returned (.bool (joinsD F rs a j)) ∧ Below w.heap.size w w' := by
  have hw3 := Fn.ways_length F rs a
  cases hL : F.leaves rs a
  · have H1 := Lib.hid (show joinsD F rs a j = (!((reachL F rs (F.ways rs a) j).any (endB F rs)) && decide (0 < (F.ways rs a).length)) by unfold joinsD; rw [hL]; simp)
    go_enter Try.func54, Try.ntmps54
    go_upto_region 3 with (first | go_skip | ((with_reducible refine at_box 30 rfl ?_); refine bx30 _ rfl x F rfl rfl ?_; intro w1 hbx hb1 hs1; have st := St.new hbx hb1; have ho := st.old; have h14 := st.c14; have h15 := st.c15; clear hbx hb1 hs1) | ((with_reducible refine at_load 30 rfl ?_); refine ld30 _ rfl _ rfl x F (St.bx (by assumption)) rfl ?_) | (go_at_call 52; refine (rleaves_any x F R rs rc a _ (St.fn (by assumption) hF) (St.row (by assumption) hR) (by omega)).mono ?_; rw [hL]; rintro e wl ⟨rfl, hbn⟩; have st := St.next (by assumption) hbn; have h14 := st.c14; clear hbn))
    have hS : St w wl.drew w.heap.size x F ∧ Below wl.heap.size wl wl.drew := ⟨st.drew, (Below.refl _ _).drew⟩
    refine h_begin (S := fun w' => St w w' w.heap.size x F ∧ Below wl.heap.size wl w') 9 #[false, false, false, false, false, false, false, false, false] rfl rfl ?_
    refine h_take (v := ?_) 0 (some 15) rfl rfl (by kernel_rfl) (by kernel_rfl) (by kernel_rfl) (fun _ _ _ h => h) (by rfl) hS (fun wS hSw => ?_) #[true, false, false, false, false, false, false, false, false] rfl ?_; rotate_left
    · refine run_ld30 _ (.tmp 4) ?_ ?_ hSw.1.bx <;> rfl
    (try simp only [Act.put, List.setIfInBounds_toArray, List.set_cons_zero, List.set_cons_succ])
    refine h_take (v := ?_) 1 (some 16) rfl rfl (by kernel_rfl) (by kernel_rfl) (by kernel_rfl) (fun _ _ _ h => h) (by rfl) hS (fun wS hSw => ?_) #[true, true, false, false, false, false, false, false, false] rfl ?_; rotate_left
    · clear hSw; go_simp; first | done | with_reducible rfl
    (try simp only [Act.put, List.setIfInBounds_toArray, List.set_cons_zero, List.set_cons_succ])
    refine h_take (v := ?_) 2 (some 17) rfl rfl (by kernel_rfl) (by kernel_rfl) (by kernel_rfl) (fun _ _ _ h => h) (by rfl) hS (fun wS hSw => ?_) #[true, true, true, false, false, false, false, false, false] rfl ?_; rotate_left
    · refine run_ld30 _ (.tmp 4) ?_ ?_ hSw.1.bx <;> rfl
    (try simp only [Act.put, List.setIfInBounds_toArray, List.set_cons_zero, List.set_cons_succ])
    refine h_take (v := ?_) 3 (some 18) rfl rfl (by kernel_rfl) (by kernel_rfl) (by kernel_rfl) (fun _ _ _ h => h) (by rfl) hS (fun wS hSw => ?_) #[true, true, true, true, false, false, false, false, false] rfl ?_; rotate_left
    · clear hSw; go_simp; first | done | with_reducible rfl
    (try simp only [Act.put, List.setIfInBounds_toArray, List.set_cons_zero, List.set_cons_succ])
    refine h_take (v := ?_) 4 (some 19) rfl rfl (by kernel_rfl) (by kernel_rfl) (by kernel_rfl) (fun _ _ _ h => h) (by rfl) hS (fun wS hSw => ?_) #[true, true, true, true, true, false, false, false, false] rfl ?_; rotate_left
    · clear hSw; go_simp; first | done | with_reducible rfl
    (try simp only [Act.put, List.setIfInBounds_toArray, List.set_cons_zero, List.set_cons_succ])
    refine h_take (v := ?_) 6 (some 21) rfl rfl (by kernel_rfl) (by kernel_rfl) (by kernel_rfl) (fun _ _ _ h => h) (by rfl) hS (fun wS hSw => ?_) #[true, true, true, true, true, false, true, false, false] rfl ?_; rotate_left
    · clear hSw; go_simp; first | done | with_reducible rfl
    (try simp only [Act.put, List.setIfInBounds_toArray, List.set_cons_zero, List.set_cons_succ])
    refine h_call 5 (some 20) (by kernel_rfl) rfl rfl (by rfl) #[true, true, true, true, true, true, true, false, false] rfl (by go_simp; exact ⟨rfl, rfl⟩) ?_
    refine (rways_any x F R rs rc a _ (St.fn hS.1 hF) (St.row hS.1 hR) (by omega) (by omega)).mono ?_
    rintro e wn ⟨A2, c2, rfl, hown2, hbn⟩
    refine ⟨_, rfl, ?_, ?_⟩
    · exact ⟨St.next hS.1 hbn, hS.2.trans (hbn.mono hS.2.size)⟩
    have hS : _ ∧ _ := ⟨St.next hS.1 hbn, hS.2.trans (hbn.mono hS.2.size)⟩
    (try simp only [Act.put, List.setIfInBounds_toArray, List.set_cons_zero, List.set_cons_succ])
    refine h_call 7 (some 22) (by kernel_rfl) rfl rfl (by rfl) #[true, true, true, true, true, true, true, true, false] rfl (by go_simp; exact ⟨rfl, rfl⟩) ?_
    refine (rreach_any x F R A2 rs rc (F.ways rs a) c2 j _ (St.fn hS.1 hF) (St.row hS.1 hR) (hown2.row.lower (Nat.zero_le _)) (by omega) (by omega) (by omega)).mono ?_
    rintro e wn ⟨A3, c3, rfl, hown3, hbn⟩
    refine ⟨_, rfl, ?_, ?_⟩
    · exact ⟨St.next hS.1 hbn, hS.2.trans (hbn.mono hS.2.size)⟩
    have hS : _ ∧ _ := ⟨St.next hS.1 hbn, hS.2.trans (hbn.mono hS.2.size)⟩
    (try simp only [Act.put, List.setIfInBounds_toArray, List.set_cons_zero, List.set_cons_succ])
    refine h_take (v := ?_) 8 (some 9) rfl rfl (by kernel_rfl) (by kernel_rfl) (by kernel_rfl) (fun _ _ _ h => h) (by rfl) hS (fun wS hSw => ?_) #[true, true, true, true, true, true, true, true, true] rfl ?_; rotate_left
    · clear hSw; go_simp; first | done | with_reducible rfl
    (try simp only [Act.put, List.setIfInBounds_toArray, List.set_cons_zero, List.set_cons_succ])
    refine wpAnyH_done (by kernel_rfl) ?_ _
    have st := hS.1
    have hown3 := hown3.lower (Nat.zero_le _)
    have hLl := reachL_length F rs (F.ways rs a) j
    clear hS hown2 hL
    generalize reachL F rs (F.ways rs a) j = L at *
    have H2 := Lib.hid (fun h : (L.any (endB F rs)) = true => show joinsD F rs a j = false by rw [H1.out, h]; rfl)
    go_wp2
    go_loopg [10] L.length (fun g s wr => ∃ (i : Nat), i ≤ L.length ∧ g = L.length - i ∧ s = .int .i64 i ∧ Hid (((L.take i).any (endB F rs)) = false) ∧ Own wr 0 A3 c3 L ∧ St w wr w.heap.size x F)
    case atStart => exact ⟨0, Nat.zero_le _, rfl, rfl, rfl, hown3, st⟩
    case round =>
      clear st hown3
      obtain ⟨i, hi, rfl, rfl, HD, hown3, st⟩ := hrel
      have ho := st.old
      have h14 := st.c14
      have hxl := st.bx.lt
      by_cases hlt : i < L.length
      · obtain ⟨B, off, hA', -, hB, h0'⟩ := hown3.row.int_at hlt
        have hix := ix32 hA' hlt c3
        have hs := any_take_succ 0 (endB F rs) hlt
        have hyes := any_of_at 0 (endB F rs) hlt
        clear hA'
        generalize L.getD i 0 = z at *
        have hlv := fun W h1 h2 => rleaves_any x F R rs rc z W h1 h2 hm
        have hcall := fun W h1 h2 => rways_any x F R rs rc z W h1 h2 hm hn
        have hw3' := Fn.ways_length F rs z
        have Hs := Lib.hid hs
        have Hyes := Lib.hid hyes
        clear hs hyes
        cases hlz : F.leaves rs z
        · rw [hlz] at hlv
          have Hlv := Lib.hid hlv
          clear hlv
          by_cases hw0 : F.ways rs z = []
          · have Ho := Lib.hid (show endB F rs z = true by unfold endB; rw [hlz, hw0]; rfl)
            rw [hw0] at hcall
            have Hcall := Lib.hid hcall
            clear hcall hlz hw0
            go_wp2_with fail
            have hS : St w wr.drew w.heap.size x F ∧ Below wr.heap.size wr wr.drew := ⟨st.drew, (Below.refl _ _).drew⟩
            refine h_begin (S := fun w' => St w w' w.heap.size x F ∧ Below wr.heap.size wr w') 18 #[false, false, false, false, false, false, false, false, false, false, false, false, false, false, false, false, false, false] rfl rfl ?_
            refine h_take (v := ?_) 0 (some 29) rfl rfl (by kernel_rfl) (by kernel_rfl) (by kernel_rfl) (fun _ _ _ h => h) (by rfl) hS (fun wS hSw => ?_) #[true, false, false, false, false, false, false, false, false, false, false, false, false, false, false, false, false, false] rfl ?_; rotate_left
            · refine run_ld30 _ (.tmp 4) ?_ ?_ hSw.1.bx <;> rfl
            (try simp only [Act.put, List.setIfInBounds_toArray, List.set_cons_zero, List.set_cons_succ])
            refine h_take (v := ?_) 1 (some 30) rfl rfl (by kernel_rfl) (by kernel_rfl) (by kernel_rfl) (fun _ _ _ h => h) (by rfl) hS (fun wS hSw => ?_) #[true, true, false, false, false, false, false, false, false, false, false, false, false, false, false, false, false, false] rfl ?_; rotate_left
            · clear hSw; go_simp; first | done | with_reducible rfl
            (try simp only [Act.put, List.setIfInBounds_toArray, List.set_cons_zero, List.set_cons_succ])
            refine h_take (v := ?_) 2 (some 31) rfl rfl (by kernel_rfl) (by kernel_rfl) (by kernel_rfl) (fun _ _ _ h => h) (by rfl) hS (fun wS hSw => ?_) #[true, true, true, false, false, false, false, false, false, false, false, false, false, false, false, false, false, false] rfl ?_; rotate_left
            · clear hSw; go_simp; first | done | with_reducible rfl
            (try simp only [Act.put, List.setIfInBounds_toArray, List.set_cons_zero, List.set_cons_succ])
            refine h_take (v := ?_) 3 (some 32) rfl rfl (by kernel_rfl) (by kernel_rfl) (by kernel_rfl) (fun _ _ _ h => h) (by rfl) hS (fun wS hSw => ?_) #[true, true, true, true, false, false, false, false, false, false, false, false, false, false, false, false, false, false] rfl ?_; rotate_left
            · clear hSw; go_simp; first | done | with_reducible rfl
            (try simp only [Act.put, List.setIfInBounds_toArray, List.set_cons_zero, List.set_cons_succ])
            refine h_take (v := ?_) 4 (some 33) rfl rfl (by kernel_rfl) (by kernel_rfl) (by kernel_rfl) (fun _ _ _ h => h) (by rfl) hS (fun wS hSw => ?_) #[true, true, true, true, true, false, false, false, false, false, false, false, false, false, false, false, false, false] rfl ?_; rotate_left
            · have hc := cells_of hSw.2; go_simp; first | done | with_reducible rfl
            (try simp only [Act.put, List.setIfInBounds_toArray, List.set_cons_zero, List.set_cons_succ])
            refine h_take (v := ?_) 5 (some 34) rfl rfl (by kernel_rfl) (by kernel_rfl) (by kernel_rfl) (fun _ _ _ h => h) (by rfl) hS (fun wS hSw => ?_) #[true, true, true, true, true, true, false, false, false, false, false, false, false, false, false, false, false, false] rfl ?_; rotate_left
            · have hc := cells_of hSw.2; go_simp; first | done | with_reducible rfl
            (try simp only [Act.put, List.setIfInBounds_toArray, List.set_cons_zero, List.set_cons_succ])
            refine h_call 6 (some 35) (by kernel_rfl) rfl rfl (by rfl) #[true, true, true, true, true, true, true, false, false, false, false, false, false, false, false, false, false, false] rfl (by go_simp; exact ⟨rfl, rfl⟩) ?_
            refine (Hlv.out _ (St.fn hS.1 hF) (St.row hS.1 hR)).mono ?_
            rintro e wn ⟨rfl, hbn⟩
            refine ⟨_, rfl, ?_, ?_⟩
            · exact ⟨St.next hS.1 hbn, hS.2.trans (hbn.mono hS.2.size)⟩
            have hS : _ ∧ _ := ⟨St.next hS.1 hbn, hS.2.trans (hbn.mono hS.2.size)⟩
            (try simp only [Act.put, List.setIfInBounds_toArray, List.set_cons_zero, List.set_cons_succ])
            refine h_take (v := ?_) 7 (some 36) rfl rfl (by kernel_rfl) (by kernel_rfl) (by kernel_rfl) (fun _ _ _ h => h) (by rfl) hS (fun wS hSw => ?_) #[true, true, true, true, true, true, true, true, false, false, false, false, false, false, false, false, false, false] rfl ?_; rotate_left
            · clear hSw; go_simp; first | done | with_reducible rfl
            (try simp only [Act.put, List.setIfInBounds_toArray, List.set_cons_zero, List.set_cons_succ])
            refine h_take (v := ?_) 8 (some 37) rfl rfl (by kernel_rfl) (by kernel_rfl) (by kernel_rfl) (fun _ _ _ h => h) (by rfl) hS (fun wS hSw => ?_) #[true, true, true, true, true, true, true, true, true, false, false, false, false, false, false, false, false, false] rfl ?_; rotate_left
            · refine run_ld30 _ (.tmp 4) ?_ ?_ hSw.1.bx <;> rfl
            (try simp only [Act.put, List.setIfInBounds_toArray, List.set_cons_zero, List.set_cons_succ])
            refine h_take (v := ?_) 9 (some 38) rfl rfl (by kernel_rfl) (by kernel_rfl) (by kernel_rfl) (fun _ _ _ h => h) (by rfl) hS (fun wS hSw => ?_) #[true, true, true, true, true, true, true, true, true, true, false, false, false, false, false, false, false, false] rfl ?_; rotate_left
            · clear hSw; go_simp; first | done | with_reducible rfl
            (try simp only [Act.put, List.setIfInBounds_toArray, List.set_cons_zero, List.set_cons_succ])
            refine h_take (v := ?_) 10 (some 39) rfl rfl (by kernel_rfl) (by kernel_rfl) (by kernel_rfl) (fun _ _ _ h => h) (by rfl) hS (fun wS hSw => ?_) #[true, true, true, true, true, true, true, true, true, true, true, false, false, false, false, false, false, false] rfl ?_; rotate_left
            · clear hSw; go_simp; first | done | with_reducible rfl
            (try simp only [Act.put, List.setIfInBounds_toArray, List.set_cons_zero, List.set_cons_succ])
            refine h_take (v := ?_) 11 (some 40) rfl rfl (by kernel_rfl) (by kernel_rfl) (by kernel_rfl) (fun _ _ _ h => h) (by rfl) hS (fun wS hSw => ?_) #[true, true, true, true, true, true, true, true, true, true, true, true, false, false, false, false, false, false] rfl ?_; rotate_left
            · clear hSw; go_simp; first | done | with_reducible rfl
            (try simp only [Act.put, List.setIfInBounds_toArray, List.set_cons_zero, List.set_cons_succ])
            refine h_take (v := ?_) 12 (some 41) rfl rfl (by kernel_rfl) (by kernel_rfl) (by kernel_rfl) (fun _ _ _ h => h) (by rfl) hS (fun wS hSw => ?_) #[true, true, true, true, true, true, true, true, true, true, true, true, true, false, false, false, false, false] rfl ?_; rotate_left
            · have hc := cells_of hSw.2; go_simp; first | done | with_reducible rfl
            (try simp only [Act.put, List.setIfInBounds_toArray, List.set_cons_zero, List.set_cons_succ])
            refine h_take (v := ?_) 13 (some 42) rfl rfl (by kernel_rfl) (by kernel_rfl) (by kernel_rfl) (fun _ _ _ h => h) (by rfl) hS (fun wS hSw => ?_) #[true, true, true, true, true, true, true, true, true, true, true, true, true, true, false, false, false, false] rfl ?_; rotate_left
            · have hc := cells_of hSw.2; go_simp; first | done | with_reducible rfl
            (try simp only [Act.put, List.setIfInBounds_toArray, List.set_cons_zero, List.set_cons_succ])
            refine h_call 14 (some 43) (by kernel_rfl) rfl rfl (by rfl) #[true, true, true, true, true, true, true, true, true, true, true, true, true, true, true, false, false, false] rfl (by go_simp; exact ⟨rfl, rfl⟩) ?_
            refine (Hcall.out _ (St.fn hS.1 hF) (St.row hS.1 hR)).mono ?_
            rintro e wn ⟨A4, c4, rfl, hown4, hbn⟩
            refine ⟨_, rfl, ?_, ?_⟩
            · exact ⟨St.next hS.1 hbn, hS.2.trans (hbn.mono hS.2.size)⟩
            have hS : _ ∧ _ := ⟨St.next hS.1 hbn, hS.2.trans (hbn.mono hS.2.size)⟩
            (try simp only [Act.put, List.setIfInBounds_toArray, List.set_cons_zero, List.set_cons_succ])
            refine h_take (v := ?_) 15 (some 44) rfl rfl (by kernel_rfl) (by kernel_rfl) (by kernel_rfl) (fun _ _ _ h => h) (by rfl) hS (fun wS hSw => ?_) #[true, true, true, true, true, true, true, true, true, true, true, true, true, true, true, true, false, false] rfl ?_; rotate_left
            · clear hSw; go_simp; first | done | with_reducible rfl
            (try simp only [Act.put, List.setIfInBounds_toArray, List.set_cons_zero, List.set_cons_succ])
            refine h_take (v := ?_) 16 (some 45) rfl rfl (by kernel_rfl) (by kernel_rfl) (by kernel_rfl) (fun _ _ _ h => h) (by rfl) hS (fun wS hSw => ?_) #[true, true, true, true, true, true, true, true, true, true, true, true, true, true, true, true, true, false] rfl ?_; rotate_left
            · clear hSw; go_simp; first | done | with_reducible rfl
            (try simp only [Act.put, List.setIfInBounds_toArray, List.set_cons_zero, List.set_cons_succ])
            refine h_take (v := ?_) 17 (some 46) rfl rfl (by kernel_rfl) (by kernel_rfl) (by kernel_rfl) (fun _ _ _ h => h) (by rfl) hS (fun wS hSw => ?_) #[true, true, true, true, true, true, true, true, true, true, true, true, true, true, true, true, true, true] rfl ?_; rotate_left
            · clear hSw; go_simp; first | done | with_reducible rfl
            (try simp only [Act.put, List.setIfInBounds_toArray, List.set_cons_zero, List.set_cons_succ])
            refine wpAnyH_done (by kernel_rfl) ?_ _
            have st := hS.1
            have hown3 := hown3.stay hS.2
            clear hS
            go_wp2
            go_ret
            exact ⟨ret_bool (H2.out (Hyes.out Ho.out)).symm, st.hb⟩
          · have hne : (((F.ways rs z).length : Int) == 0) = false := by simpa using hw0
            have Ho := Lib.hid (show endB F rs z = false by unfold endB; rw [hlz, hne]; rfl)
            have Hcall := Lib.hid hcall
            clear hcall hlz hw0
            go_wp2_with fail
            have hS : St w wr.drew w.heap.size x F ∧ Below wr.heap.size wr wr.drew := ⟨st.drew, (Below.refl _ _).drew⟩
            refine h_begin (S := fun w' => St w w' w.heap.size x F ∧ Below wr.heap.size wr w') 18 #[false, false, false, false, false, false, false, false, false, false, false, false, false, false, false, false, false, false] rfl rfl ?_
            refine h_take (v := ?_) 0 (some 29) rfl rfl (by kernel_rfl) (by kernel_rfl) (by kernel_rfl) (fun _ _ _ h => h) (by rfl) hS (fun wS hSw => ?_) #[true, false, false, false, false, false, false, false, false, false, false, false, false, false, false, false, false, false] rfl ?_; rotate_left
            · refine run_ld30 _ (.tmp 4) ?_ ?_ hSw.1.bx <;> rfl
            (try simp only [Act.put, List.setIfInBounds_toArray, List.set_cons_zero, List.set_cons_succ])
            refine h_take (v := ?_) 1 (some 30) rfl rfl (by kernel_rfl) (by kernel_rfl) (by kernel_rfl) (fun _ _ _ h => h) (by rfl) hS (fun wS hSw => ?_) #[true, true, false, false, false, false, false, false, false, false, false, false, false, false, false, false, false, false] rfl ?_; rotate_left
            · clear hSw; go_simp; first | done | with_reducible rfl
            (try simp only [Act.put, List.setIfInBounds_toArray, List.set_cons_zero, List.set_cons_succ])
            refine h_take (v := ?_) 2 (some 31) rfl rfl (by kernel_rfl) (by kernel_rfl) (by kernel_rfl) (fun _ _ _ h => h) (by rfl) hS (fun wS hSw => ?_) #[true, true, true, false, false, false, false, false, false, false, false, false, false, false, false, false, false, false] rfl ?_; rotate_left
            · clear hSw; go_simp; first | done | with_reducible rfl
            (try simp only [Act.put, List.setIfInBounds_toArray, List.set_cons_zero, List.set_cons_succ])
            refine h_take (v := ?_) 3 (some 32) rfl rfl (by kernel_rfl) (by kernel_rfl) (by kernel_rfl) (fun _ _ _ h => h) (by rfl) hS (fun wS hSw => ?_) #[true, true, true, true, false, false, false, false, false, false, false, false, false, false, false, false, false, false] rfl ?_; rotate_left
            · clear hSw; go_simp; first | done | with_reducible rfl
            (try simp only [Act.put, List.setIfInBounds_toArray, List.set_cons_zero, List.set_cons_succ])
            refine h_take (v := ?_) 4 (some 33) rfl rfl (by kernel_rfl) (by kernel_rfl) (by kernel_rfl) (fun _ _ _ h => h) (by rfl) hS (fun wS hSw => ?_) #[true, true, true, true, true, false, false, false, false, false, false, false, false, false, false, false, false, false] rfl ?_; rotate_left
            · have hc := cells_of hSw.2; go_simp; first | done | with_reducible rfl
            (try simp only [Act.put, List.setIfInBounds_toArray, List.set_cons_zero, List.set_cons_succ])
            refine h_take (v := ?_) 5 (some 34) rfl rfl (by kernel_rfl) (by kernel_rfl) (by kernel_rfl) (fun _ _ _ h => h) (by rfl) hS (fun wS hSw => ?_) #[true, true, true, true, true, true, false, false, false, false, false, false, false, false, false, false, false, false] rfl ?_; rotate_left
            · have hc := cells_of hSw.2; go_simp; first | done | with_reducible rfl
            (try simp only [Act.put, List.setIfInBounds_toArray, List.set_cons_zero, List.set_cons_succ])
            refine h_call 6 (some 35) (by kernel_rfl) rfl rfl (by rfl) #[true, true, true, true, true, true, true, false, false, false, false, false, false, false, false, false, false, false] rfl (by go_simp; exact ⟨rfl, rfl⟩) ?_
            refine (Hlv.out _ (St.fn hS.1 hF) (St.row hS.1 hR)).mono ?_
            rintro e wn ⟨rfl, hbn⟩
            refine ⟨_, rfl, ?_, ?_⟩
            · exact ⟨St.next hS.1 hbn, hS.2.trans (hbn.mono hS.2.size)⟩
            have hS : _ ∧ _ := ⟨St.next hS.1 hbn, hS.2.trans (hbn.mono hS.2.size)⟩
            (try simp only [Act.put, List.setIfInBounds_toArray, List.set_cons_zero, List.set_cons_succ])
            refine h_take (v := ?_) 7 (some 36) rfl rfl (by kernel_rfl) (by kernel_rfl) (by kernel_rfl) (fun _ _ _ h => h) (by rfl) hS (fun wS hSw => ?_) #[true, true, true, true, true, true, true, true, false, false, false, false, false, false, false, false, false, false] rfl ?_; rotate_left
            · clear hSw; go_simp; first | done | with_reducible rfl
            (try simp only [Act.put, List.setIfInBounds_toArray, List.set_cons_zero, List.set_cons_succ])
            refine h_take (v := ?_) 8 (some 37) rfl rfl (by kernel_rfl) (by kernel_rfl) (by kernel_rfl) (fun _ _ _ h => h) (by rfl) hS (fun wS hSw => ?_) #[true, true, true, true, true, true, true, true, true, false, false, false, false, false, false, false, false, false] rfl ?_; rotate_left
            · refine run_ld30 _ (.tmp 4) ?_ ?_ hSw.1.bx <;> rfl
            (try simp only [Act.put, List.setIfInBounds_toArray, List.set_cons_zero, List.set_cons_succ])
            refine h_take (v := ?_) 9 (some 38) rfl rfl (by kernel_rfl) (by kernel_rfl) (by kernel_rfl) (fun _ _ _ h => h) (by rfl) hS (fun wS hSw => ?_) #[true, true, true, true, true, true, true, true, true, true, false, false, false, false, false, false, false, false] rfl ?_; rotate_left
            · clear hSw; go_simp; first | done | with_reducible rfl
            (try simp only [Act.put, List.setIfInBounds_toArray, List.set_cons_zero, List.set_cons_succ])
            refine h_take (v := ?_) 10 (some 39) rfl rfl (by kernel_rfl) (by kernel_rfl) (by kernel_rfl) (fun _ _ _ h => h) (by rfl) hS (fun wS hSw => ?_) #[true, true, true, true, true, true, true, true, true, true, true, false, false, false, false, false, false, false] rfl ?_; rotate_left
            · clear hSw; go_simp; first | done | with_reducible rfl
            (try simp only [Act.put, List.setIfInBounds_toArray, List.set_cons_zero, List.set_cons_succ])
            refine h_take (v := ?_) 11 (some 40) rfl rfl (by kernel_rfl) (by kernel_rfl) (by kernel_rfl) (fun _ _ _ h => h) (by rfl) hS (fun wS hSw => ?_) #[true, true, true, true, true, true, true, true, true, true, true, true, false, false, false, false, false, false] rfl ?_; rotate_left
            · clear hSw; go_simp; first | done | with_reducible rfl
            (try simp only [Act.put, List.setIfInBounds_toArray, List.set_cons_zero, List.set_cons_succ])
            refine h_take (v := ?_) 12 (some 41) rfl rfl (by kernel_rfl) (by kernel_rfl) (by kernel_rfl) (fun _ _ _ h => h) (by rfl) hS (fun wS hSw => ?_) #[true, true, true, true, true, true, true, true, true, true, true, true, true, false, false, false, false, false] rfl ?_; rotate_left
            · have hc := cells_of hSw.2; go_simp; first | done | with_reducible rfl
            (try simp only [Act.put, List.setIfInBounds_toArray, List.set_cons_zero, List.set_cons_succ])
            refine h_take (v := ?_) 13 (some 42) rfl rfl (by kernel_rfl) (by kernel_rfl) (by kernel_rfl) (fun _ _ _ h => h) (by rfl) hS (fun wS hSw => ?_) #[true, true, true, true, true, true, true, true, true, true, true, true, true, true, false, false, false, false] rfl ?_; rotate_left
            · have hc := cells_of hSw.2; go_simp; first | done | with_reducible rfl
            (try simp only [Act.put, List.setIfInBounds_toArray, List.set_cons_zero, List.set_cons_succ])
            refine h_call 14 (some 43) (by kernel_rfl) rfl rfl (by rfl) #[true, true, true, true, true, true, true, true, true, true, true, true, true, true, true, false, false, false] rfl (by go_simp; exact ⟨rfl, rfl⟩) ?_
            refine (Hcall.out _ (St.fn hS.1 hF) (St.row hS.1 hR)).mono ?_
            rintro e wn ⟨A4, c4, rfl, hown4, hbn⟩
            refine ⟨_, rfl, ?_, ?_⟩
            · exact ⟨St.next hS.1 hbn, hS.2.trans (hbn.mono hS.2.size)⟩
            have hS : _ ∧ _ := ⟨St.next hS.1 hbn, hS.2.trans (hbn.mono hS.2.size)⟩
            (try simp only [Act.put, List.setIfInBounds_toArray, List.set_cons_zero, List.set_cons_succ])
            refine h_take (v := ?_) 15 (some 44) rfl rfl (by kernel_rfl) (by kernel_rfl) (by kernel_rfl) (fun _ _ _ h => h) (by rfl) hS (fun wS hSw => ?_) #[true, true, true, true, true, true, true, true, true, true, true, true, true, true, true, true, false, false] rfl ?_; rotate_left
            · clear hSw; go_simp; first | done | with_reducible rfl
            (try simp only [Act.put, List.setIfInBounds_toArray, List.set_cons_zero, List.set_cons_succ])
            refine h_take (v := ?_) 16 (some 45) rfl rfl (by kernel_rfl) (by kernel_rfl) (by kernel_rfl) (fun _ _ _ h => h) (by rfl) hS (fun wS hSw => ?_) #[true, true, true, true, true, true, true, true, true, true, true, true, true, true, true, true, true, false] rfl ?_; rotate_left
            · clear hSw; go_simp; first | done | with_reducible rfl
            (try simp only [Act.put, List.setIfInBounds_toArray, List.set_cons_zero, List.set_cons_succ])
            refine h_take (v := ?_) 17 (some 46) rfl rfl (by kernel_rfl) (by kernel_rfl) (by kernel_rfl) (fun _ _ _ h => h) (by rfl) hS (fun wS hSw => ?_) #[true, true, true, true, true, true, true, true, true, true, true, true, true, true, true, true, true, true] rfl ?_; rotate_left
            · clear hSw; go_simp; first | done | with_reducible rfl
            (try simp only [Act.put, List.setIfInBounds_toArray, List.set_cons_zero, List.set_cons_succ])
            refine wpAnyH_done (by kernel_rfl) ?_ _
            have st := hS.1
            have hown3 := hown3.stay hS.2
            clear hS
            go_wp2
            go_roundg (L.length - (i + 1))
            case measure => omega
            case rel => exact ⟨i + 1, by omega, rfl, by go_num, Lib.hid (by rw [Hs.out, HD.out, Ho.out]; rfl), hown3, st⟩
        · rw [hlz] at hlv
          have Hlv := Lib.hid hlv
          have Ho := Lib.hid (show endB F rs z = true by unfold endB; rw [hlz]; rfl)
          have Hcall := Lib.hid hcall
          clear hlv hcall hlz
          go_wp2_with fail
          have hS : St w wr.drew w.heap.size x F ∧ Below wr.heap.size wr wr.drew := ⟨st.drew, (Below.refl _ _).drew⟩
          refine h_begin (S := fun w' => St w w' w.heap.size x F ∧ Below wr.heap.size wr w') 18 #[false, false, false, false, false, false, false, false, false, false, false, false, false, false, false, false, false, false] rfl rfl ?_
          refine h_take (v := ?_) 0 (some 29) rfl rfl (by kernel_rfl) (by kernel_rfl) (by kernel_rfl) (fun _ _ _ h => h) (by rfl) hS (fun wS hSw => ?_) #[true, false, false, false, false, false, false, false, false, false, false, false, false, false, false, false, false, false] rfl ?_; rotate_left
          · refine run_ld30 _ (.tmp 4) ?_ ?_ hSw.1.bx <;> rfl
          (try simp only [Act.put, List.setIfInBounds_toArray, List.set_cons_zero, List.set_cons_succ])
          refine h_take (v := ?_) 1 (some 30) rfl rfl (by kernel_rfl) (by kernel_rfl) (by kernel_rfl) (fun _ _ _ h => h) (by rfl) hS (fun wS hSw => ?_) #[true, true, false, false, false, false, false, false, false, false, false, false, false, false, false, false, false, false] rfl ?_; rotate_left
          · clear hSw; go_simp; first | done | with_reducible rfl
          (try simp only [Act.put, List.setIfInBounds_toArray, List.set_cons_zero, List.set_cons_succ])
          refine h_take (v := ?_) 2 (some 31) rfl rfl (by kernel_rfl) (by kernel_rfl) (by kernel_rfl) (fun _ _ _ h => h) (by rfl) hS (fun wS hSw => ?_) #[true, true, true, false, false, false, false, false, false, false, false, false, false, false, false, false, false, false] rfl ?_; rotate_left
          · clear hSw; go_simp; first | done | with_reducible rfl
          (try simp only [Act.put, List.setIfInBounds_toArray, List.set_cons_zero, List.set_cons_succ])
          refine h_take (v := ?_) 3 (some 32) rfl rfl (by kernel_rfl) (by kernel_rfl) (by kernel_rfl) (fun _ _ _ h => h) (by rfl) hS (fun wS hSw => ?_) #[true, true, true, true, false, false, false, false, false, false, false, false, false, false, false, false, false, false] rfl ?_; rotate_left
          · clear hSw; go_simp; first | done | with_reducible rfl
          (try simp only [Act.put, List.setIfInBounds_toArray, List.set_cons_zero, List.set_cons_succ])
          refine h_take (v := ?_) 4 (some 33) rfl rfl (by kernel_rfl) (by kernel_rfl) (by kernel_rfl) (fun _ _ _ h => h) (by rfl) hS (fun wS hSw => ?_) #[true, true, true, true, true, false, false, false, false, false, false, false, false, false, false, false, false, false] rfl ?_; rotate_left
          · have hc := cells_of hSw.2; go_simp; first | done | with_reducible rfl
          (try simp only [Act.put, List.setIfInBounds_toArray, List.set_cons_zero, List.set_cons_succ])
          refine h_take (v := ?_) 5 (some 34) rfl rfl (by kernel_rfl) (by kernel_rfl) (by kernel_rfl) (fun _ _ _ h => h) (by rfl) hS (fun wS hSw => ?_) #[true, true, true, true, true, true, false, false, false, false, false, false, false, false, false, false, false, false] rfl ?_; rotate_left
          · have hc := cells_of hSw.2; go_simp; first | done | with_reducible rfl
          (try simp only [Act.put, List.setIfInBounds_toArray, List.set_cons_zero, List.set_cons_succ])
          refine h_call 6 (some 35) (by kernel_rfl) rfl rfl (by rfl) #[true, true, true, true, true, true, true, false, false, false, false, false, false, false, false, false, false, false] rfl (by go_simp; exact ⟨rfl, rfl⟩) ?_
          refine (Hlv.out _ (St.fn hS.1 hF) (St.row hS.1 hR)).mono ?_
          rintro e wn ⟨rfl, hbn⟩
          refine ⟨_, rfl, ?_, ?_⟩
          · exact ⟨St.next hS.1 hbn, hS.2.trans (hbn.mono hS.2.size)⟩
          have hS : _ ∧ _ := ⟨St.next hS.1 hbn, hS.2.trans (hbn.mono hS.2.size)⟩
          (try simp only [Act.put, List.setIfInBounds_toArray, List.set_cons_zero, List.set_cons_succ])
          refine h_take (v := ?_) 7 (some 36) rfl rfl (by kernel_rfl) (by kernel_rfl) (by kernel_rfl) (fun _ _ _ h => h) (by rfl) hS (fun wS hSw => ?_) #[true, true, true, true, true, true, true, true, false, false, false, false, false, false, false, false, false, false] rfl ?_; rotate_left
          · clear hSw; go_simp; first | done | with_reducible rfl
          (try simp only [Act.put, List.setIfInBounds_toArray, List.set_cons_zero, List.set_cons_succ])
          refine h_skip 8 (some 37) rfl rfl (by kernel_rfl) (by kernel_rfl) (by kernel_rfl) (fun _ _ _ h => h) (by rfl) hS #[true, true, true, true, true, true, true, true, true, false, false, false, false, false, false, false, false, false] rfl ?_
          (try simp only [Act.put, List.setIfInBounds_toArray, List.set_cons_zero, List.set_cons_succ])
          refine h_skip 9 (some 38) rfl rfl (by kernel_rfl) (by kernel_rfl) (by kernel_rfl) (fun _ _ _ h => h) (by rfl) hS #[true, true, true, true, true, true, true, true, true, true, false, false, false, false, false, false, false, false] rfl ?_
          (try simp only [Act.put, List.setIfInBounds_toArray, List.set_cons_zero, List.set_cons_succ])
          refine h_skip 10 (some 39) rfl rfl (by kernel_rfl) (by kernel_rfl) (by kernel_rfl) (fun _ _ _ h => h) (by rfl) hS #[true, true, true, true, true, true, true, true, true, true, true, false, false, false, false, false, false, false] rfl ?_
          (try simp only [Act.put, List.setIfInBounds_toArray, List.set_cons_zero, List.set_cons_succ])
          refine h_skip 11 (some 40) rfl rfl (by kernel_rfl) (by kernel_rfl) (by kernel_rfl) (fun _ _ _ h => h) (by rfl) hS #[true, true, true, true, true, true, true, true, true, true, true, true, false, false, false, false, false, false] rfl ?_
          (try simp only [Act.put, List.setIfInBounds_toArray, List.set_cons_zero, List.set_cons_succ])
          refine h_skip 12 (some 41) rfl rfl (by kernel_rfl) (by kernel_rfl) (by kernel_rfl) (fun _ _ _ h => h) (by rfl) hS #[true, true, true, true, true, true, true, true, true, true, true, true, true, false, false, false, false, false] rfl ?_
          (try simp only [Act.put, List.setIfInBounds_toArray, List.set_cons_zero, List.set_cons_succ])
          refine h_skip 13 (some 42) rfl rfl (by kernel_rfl) (by kernel_rfl) (by kernel_rfl) (fun _ _ _ h => h) (by rfl) hS #[true, true, true, true, true, true, true, true, true, true, true, true, true, true, false, false, false, false] rfl ?_
          (try simp only [Act.put, List.setIfInBounds_toArray, List.set_cons_zero, List.set_cons_succ])
          refine h_skip 14 (some 43) rfl rfl (by kernel_rfl) (by kernel_rfl) (by kernel_rfl) (fun _ _ _ h => h) (by rfl) hS #[true, true, true, true, true, true, true, true, true, true, true, true, true, true, true, false, false, false] rfl ?_
          (try simp only [Act.put, List.setIfInBounds_toArray, List.set_cons_zero, List.set_cons_succ])
          refine h_skip 15 (some 44) rfl rfl (by kernel_rfl) (by kernel_rfl) (by kernel_rfl) (fun _ _ _ h => h) (by rfl) hS #[true, true, true, true, true, true, true, true, true, true, true, true, true, true, true, true, false, false] rfl ?_
          (try simp only [Act.put, List.setIfInBounds_toArray, List.set_cons_zero, List.set_cons_succ])
          refine h_skip 16 (some 45) rfl rfl (by kernel_rfl) (by kernel_rfl) (by kernel_rfl) (fun _ _ _ h => h) (by rfl) hS #[true, true, true, true, true, true, true, true, true, true, true, true, true, true, true, true, true, false] rfl ?_
          (try simp only [Act.put, List.setIfInBounds_toArray, List.set_cons_zero, List.set_cons_succ])
          refine h_take (v := ?_) 17 (some 46) rfl rfl (by kernel_rfl) (by kernel_rfl) (by kernel_rfl) (fun _ _ _ h => h) (by rfl) hS (fun wS hSw => ?_) #[true, true, true, true, true, true, true, true, true, true, true, true, true, true, true, true, true, true] rfl ?_; rotate_left
          · clear hSw; go_simp; first | done | with_reducible rfl
          (try simp only [Act.put, List.setIfInBounds_toArray, List.set_cons_zero, List.set_cons_succ])
          refine wpAnyH_done (by kernel_rfl) ?_ _
          have st := hS.1
          have hown3 := hown3.stay hS.2
          clear hS
          go_wp2
          go_ret
          exact ⟨ret_bool (H2.out (Hyes.out Ho.out)).symm, st.hb⟩
      · have hd : L.any (endB F rs) = false := by
          have := HD.out
          rwa [List.take_of_length_le (by omega)] at this
        have HN := Lib.hid hd
        clear hd HD
        go_wp2_with (first | ((with_reducible refine at_load 30 rfl ?_); refine ld30 _ rfl _ rfl x F (St.bx (by assumption)) rfl ?_) | (go_at_call 55; refine (rways_any x F R rs rc a _ (St.fn (by assumption) hF) (St.row (by assumption) hR) (by omega) (by omega)).mono ?_; rintro e wv ⟨A6, c6, rfl, hown6, hbn⟩; have st := St.next (by assumption) hbn; have h14 := st.c14; clear hbn))
        go_ret
        exact ⟨ret_bool (by rw [H1.out, HN.out]; simp), st.hb⟩
  · have H1 := Lib.hid (show joinsD F rs a j = false by unfold joinsD; rw [hL]; rfl)
    go_enter Try.func54, Try.ntmps54
    go_wp2_with (first | go_skip | ((with_reducible refine at_box 30 rfl ?_); refine bx30 _ rfl x F rfl rfl ?_; intro w1 hbx hb1 hs1; have st := St.new hbx hb1; have ho := st.old; have h14 := st.c14; have h15 := st.c15; clear hbx hb1 hs1) | ((with_reducible refine at_load 30 rfl ?_); refine ld30 _ rfl _ rfl x F (St.bx (by assumption)) rfl ?_) | (go_at_call 52; refine (rleaves_any x F R rs rc a _ (St.fn (by assumption) hF) (St.row (by assumption) hR) (by omega)).mono ?_; rw [hL]; rintro e wl ⟨rfl, hbn⟩; have st := St.next (by assumption) hbn; have h14 := st.c14; clear hbn))
    go_ret
    exact ⟨ret_bool H1.out.symm, st.hb⟩
end Go.Proofs.Ytnnhlnefhndpdaa
